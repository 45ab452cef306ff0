/- Walks and plain laws that several statements lean on, joined: no statement of the seat is proved here. -/
import Derived.Test.YtcanbidenhcohaaB5
import Derived.Test.YtcanbidenhcohaaB1
import Derived.Test.YtcanbidenhcohaaB4
import Derived.Test.YtcanbidenhcohaaB3
import Derived.Test.YtcanbidenhcohaaB6

/- Plain law: the printed functions of boards and places are the document's, at all bytes of a board and all squares. -/
namespace Go.Proofs.Ytcanbidenhcohaa.P
open Go.RowKit Go.Lib Go.Proofs.YtcanbidenhcohaaW.PrintWords Go.Proofs.YtcanbidenhcohaaW.PrintLast Go.Proofs.YtcanbidenhcohaaW.PrintMore
open Sp

theorem side_all : ∀ x : Fin 256, board_Side.f ((x.1 : Nat) : Int) = some (sideN x.1) := by decide +kernel
theorem kind_all : ∀ x : Fin 256, board_Kind.f ((x.1 : Nat) : Int) = some ((kindN x.1 : Nat) : Int) := by decide +kernel
theorem rside_all : ∀ x : Fin 256, riverbankref02_Side.f 1 ((x.1 : Nat) : Int) = some (sideN x.1) := by decide +kernel
theorem rkind_all : ∀ x : Fin 256, riverbankref02_Kind.f 1 ((x.1 : Nat) : Int) = some ((kindN x.1 : Nat) : Int) := by decide +kernel
theorem may_all : ∀ x ∈ letters, ∀ n : Fin 90, place_May.f ((x : Nat) : Int) ((n.1 : Nat) : Int) = some (mayN x n.1) := by decide +kernel
theorem rmay_all : ∀ x ∈ letters, ∀ n : Fin 90, riverbankref03_May.f 3 ((x : Nat) : Int) ((n.1 : Nat) : Int) = some (mayN x n.1) := by decide +kernel
theorem over_all : ∀ s : Fin 2, ∀ n : Fin 90, place_Over.f 3 ((n.1 : Nat) : Int) ((s.1 : Nat) : Int) = some (overN n.1 ((s.1 : Nat) : Int)) := by decide +kernel
theorem rover_all : ∀ s : Fin 2, ∀ n : Fin 90, riverbankref03_Over.f ((n.1 : Nat) : Int) ((s.1 : Nat) : Int) = some (overN n.1 ((s.1 : Nat) : Int)) := by decide +kernel
end Go.Proofs.Ytcanbidenhcohaa.P

/- Plain law: the reference's answer of where a piece reaches, as printed, is the document's. -/
namespace Go.Proofs.Ytcanbidenhcohaa.P
open Go.RowKit Go.Lib Go.Proofs.YtcanbidenhcohaaW.PrintWords Go.Proofs.YtcanbidenhcohaaW.PrintLast Go.Proofs.YtcanbidenhcohaaW.PrintMore
open Sp

/-- What stands on a square. -/
def cel (s : ByteArray) (n : Nat) : Nat := (bt s (n : Int)).toNat
theorem bt_cel (s : ByteArray) (n : Nat) : bt s (n : Int) = ((cel s n : Nat) : Int) := by unfold cel; have := bt_range s (n : Int); omega
theorem cel_lt (s : ByteArray) (n : Nat) : cel s n < 256 := by unfold cel; have := bt_range s (n : Int); omega
theorem board_size {s : ByteArray} (h : isBoard s = true) : s.size = 90 := by simp [isBoard] at h; exact h.1
theorem board_cell {s : ByteArray} (h : isBoard s = true) {n : Nat} (hn : n < 90) : cellB (cel s n) = true := by
  have hs := board_size h
  simp only [isBoard, Bool.and_eq_true, List.all_eq_true] at h
  have hl : n < s.data.toList.length := by rw [Array.length_toList]; show n < s.size; omega
  have := h.2 _ (List.getElem_mem hl)
  have e : cel s n = (s.data.toList[n]'hl).toNat := by
    unfold cel
    rw [← bt_at s (n : Int) (by omega)]
    simp only [Int.toNat_natCast]
    rw [Array.getElem_toList]
    rfl
  rw [e]; exact this
theorem board_letter {s : ByteArray} (h : isBoard s = true) {n : Nat} (hn : n < 90) : cel s n ∈ letters := cellB_mem _ (board_cell h hn)

/-! ### functions with rounds, from some number of rounds on -/
theorem rside_f (x k : Nat) (hx : x < 256) (hk : 1 ≤ k) : riverbankref02_Side.f k (x : Int) = some (sideN x) := at_rounds (riverbankref02_Side.mono _) hk (rside_all ⟨x, hx⟩)
theorem rkind_f (x k : Nat) (hx : x < 256) (hk : 1 ≤ k) : riverbankref02_Kind.f k (x : Int) = some ((kindN x : Nat) : Int) := at_rounds (riverbankref02_Kind.mono _) hk (rkind_all ⟨x, hx⟩)
theorem rmay_f (x n k : Nat) (hx : x ∈ letters) (hn : n < 90) (hk : 3 ≤ k) : riverbankref03_May.f k (x : Int) (n : Int) = some (mayN x n) := at_rounds (riverbankref03_May.mono _ _) hk (rmay_all x hx ⟨n, hn⟩)
theorem side_f (x : Nat) (hx : x < 256) : board_Side.f (x : Int) = some (sideN x) := side_all ⟨x, hx⟩
theorem kind_f (x : Nat) (hx : x < 256) : board_Kind.f (x : Int) = some ((kindN x : Nat) : Int) := kind_all ⟨x, hx⟩
theorem rpawn_all : ∀ s : Fin 2, ∀ a b : Fin 90, riverbankref05_pawn.f 1 ((s.1 : Nat) : Int) ((a.1 : Nat) : Int) ((b.1 : Nat) : Int) = some (pawnN ((s.1 : Nat) : Int) a.1 b.1) := by decide +kernel
theorem div9 : ∀ a : Fin 90, wrap64 (Int.tdiv ((a.1 : Nat) : Int) 9) = ((a.1 / 9 : Nat) : Int) := by decide +kernel
theorem mod9 : ∀ a : Fin 90, Int.tmod ((a.1 : Nat) : Int) 9 = ((a.1 % 9 : Nat) : Int) := by decide +kernel
theorem away_f (a b : Nat) (ha : a < 1000) (hb : b < 1000) : riverbankref05_away.f (a : Int) (b : Int) = some ((away a b : Nat) : Int) := by
  unfold riverbankref05_away.f away mx mn wrap64
  congr 1
  repeat' split
  all_goals omega

theorem wrap_small (x : Int) (h1 : -1000000000 ≤ x) (h2 : x ≤ 1000000000) : wrap64 x = x := by unfold wrap64; omega
/-! ### between -/
/-- The places i, i + step, .. -/
def walkS (step : Nat) : Nat → Nat → List Nat
  | 0, _ => []
  | m + 1, i => i :: walkS step m (i + step)
/-- They end below M. -/
def endsS (step M : Nat) : Nat → Nat → Bool
  | 0, i => decide (M ≤ i)
  | m + 1, i => decide (i < M) && endsS step M m (i + step)

theorem between_l0 (s : ByteArray) (hs : s.size = 90) (x1 x2 : Int) (step M : Nat) (hstep : step ≤ 9) (hM : M ≤ 89) (hmx : mx x1 x2 = (M : Int)) (rem : Nat) :
    ∀ (i n k : Nat), rem < k → n + rem < 1000 → endsS step M rem i = true →
    riverbankref05_between.l0 k s x1 x2 step n i = some ((n + (walkS step rem i).countP (fun j => cel s j != 46) : Nat) : Int) := by
  induction rem with
  | zero =>
    intro i n k hk hn he
    obtain ⟨k, rfl⟩ : ∃ m, k = m + 1 := ⟨k - 1, by omega⟩
    have he' : M ≤ i := by simpa [endsS] using he
    simp only [riverbankref05_between.l0]
    rw [if_neg (by omega)]
    simp [walkS]
  | succ rem ih =>
    intro i n k hk hn he
    obtain ⟨k, rfl⟩ : ∃ m, k = m + 1 := ⟨k - 1, by omega⟩
    simp only [endsS, Bool.and_eq_true, decide_eq_true_eq] at he
    obtain ⟨hlt, he⟩ := he
    have hw : wrap64 ((i : Int) + (step : Int)) = ((i + step : Nat) : Int) := by rw [wrap_small _ (by omega) (by omega)]; omega
    have hn1 : wrap64 ((n : Int) + 1) = ((n + 1 : Nat) : Int) := by rw [wrap_small _ (by omega) (by omega)]; omega
    have i1 := ih (i + step) n k (by omega) (by omega) he
    have i2 := ih (i + step) (n + 1) k (by omega) (by omega) he
    simp only [riverbankref05_between.l0]
    rw [if_pos (by omega), if_pos (by omega), if_pos (by omega), bt_cel, walkS, List.countP_cons]
    by_cases hc : cel s i = 46
    · rw [if_pos (by omega), hw, i1]
      simp [hc]
    · rw [if_neg (by omega), hw, hn1, i2]
      simp [hc]
      omega
theorem betw_geo : ∀ a b : Fin 90, a.1 ≠ b.1 → (a.1 / 9 = b.1 / 9 → walkS 1 (away a.1 b.1 - 1) (Nat.min a.1 b.1 + 1) = betwL a.1 b.1 ∧ endsS 1 (Nat.max a.1 b.1) (away a.1 b.1 - 1) (Nat.min a.1 b.1 + 1) = true) ∧
    (a.1 / 9 ≠ b.1 / 9 → a.1 % 9 = b.1 % 9 → walkS 9 (away (a.1 / 9) (b.1 / 9) - 1) (Nat.min a.1 b.1 + 9) = betwL a.1 b.1 ∧ endsS 9 (Nat.max a.1 b.1) (away (a.1 / 9) (b.1 / 9) - 1) (Nat.min a.1 b.1 + 9) = true) := by decide +kernel
theorem mx_nat (a b : Nat) : mx (a : Int) (b : Int) = ((Nat.max a b : Nat) : Int) := by unfold mx; have : Nat.max a b = if a ≤ b then b else a := rfl; rw [this]; split <;> split <;> omega
theorem mn_nat (a b : Nat) : mn (a : Int) (b : Int) = ((Nat.min a b : Nat) : Int) := by unfold mn; have : Nat.min a b = if a ≤ b then a else b := rfl; rw [this]; split <;> split <;> omega
theorem rbetween_f (s : ByteArray) (hs : s.size = 90) (a b k : Nat) (ha : a < 90) (hb : b < 90) (hk : 100 ≤ k) : riverbankref05_between.f k s (a : Int) (b : Int) = some (betwN (cel s) a b) := by
  obtain ⟨k, rfl⟩ : ∃ m, k = m + 1 := ⟨k - 1, by omega⟩
  have da := div9 ⟨a, ha⟩
  have db := div9 ⟨b, hb⟩
  have ma := mod9 ⟨a, ha⟩
  have mb := mod9 ⟨b, hb⟩
  have hmn := mn_nat a b
  have hmx := mx_nat a b
  have hle : Nat.max a b ≤ 89 := by have : Nat.max a b = if a ≤ b then b else a := rfl; rw [this]; split <;> omega
  have hmin : Nat.min a b ≤ 89 := by have : Nat.min a b = if a ≤ b then a else b := rfl; rw [this]; split <;> omega
  have hw : ∀ m d : Nat, m ≤ 89 → d ≤ 9 → wrap64 ((m : Int) + (d : Int)) = ((m + d : Nat) : Int) := fun m d h1 h2 => by rw [wrap_small _ (by omega) (by omega)]; omega
  have hw1 : wrap64 (((Nat.min a b : Nat) : Int) + 1) = ((Nat.min a b + 1 : Nat) : Int) := hw _ 1 hmin (by omega)
  have hw9 : wrap64 (((Nat.min a b : Nat) : Int) + 9) = ((Nat.min a b + 9 : Nat) : Int) := hw _ 9 hmin (by omega)
  have haw : away a b ≤ 89 := by unfold away; split <;> omega
  have haw9 : away (a / 9) (b / 9) ≤ 89 := by unfold away; split <;> omega
  unfold riverbankref05_between.f betwN
  by_cases hab : a = b
  · rw [if_pos (by omega), if_pos hab]
  · rw [if_neg (by omega), if_neg hab, da, db, ma, mb]
    obtain ⟨g1, g9⟩ := betw_geo ⟨a, ha⟩ ⟨b, hb⟩ hab
    simp only at g1 g9 ⊢
    by_cases h1 : a / 9 = b / 9
    · obtain ⟨e1, e2⟩ := g1 h1
      rw [if_pos (by omega), if_pos (.inl h1)]
      simp only [riverbankref05_between.j0]
      rw [hmn, hw1]
      have := between_l0 s hs a b 1 _ (by omega) hle hmx _ _ 0 k (by omega) (by omega) e2
      rw [e1] at this
      simpa using this
    · rw [if_neg (by omega)]
      by_cases h9 : a % 9 = b % 9
      · obtain ⟨e1, e2⟩ := g9 h1 h9
        rw [if_pos (by omega), if_pos (.inr h9)]
        simp only [riverbankref05_between.j0]
        rw [hmn, hw9]
        have := between_l0 s hs a b 9 _ (by omega) hle hmx _ _ 0 k (by omega) (by omega) e2
        rw [e1] at this
        simpa using this
      · rw [if_neg (by omega), if_neg (by rintro (h | h) <;> omega)]
end Go.Proofs.Ytcanbidenhcohaa.P

/- Plain law: the program's ways of all pieces, as printed. -/
namespace Go.Proofs.Ytcanbidenhcohaa.P
open Go.RowKit Go.Lib Go.Proofs.YtcanbidenhcohaaW.PrintWords Go.Proofs.YtcanbidenhcohaaW.PrintLast Go.Proofs.YtcanbidenhcohaaW.PrintMore
open Sp
set_option linter.unusedVariables false
set_option linter.unusedSimpArgs false

theorem half2 : ∀ a b : Fin 90, wrap64 (Int.tdiv (wrap64 (((a.1 : Nat) : Int) + ((b.1 : Nat) : Int))) 2) = (((a.1 + b.1) / 2 : Nat) : Int) := by decide +kernel
theorem square_f (n : Int) : board_isSquare.f n = some (decide (0 ≤ n ∧ n < 90)) := by
  unfold board_isSquare.f
  by_cases h : n ≥ 0
  · rw [if_pos h]; congr 1; simp only [decide_eq_decide]; omega
  · rw [if_neg h]; congr 1; symm; simp only [decide_eq_false_iff_not]; omega
theorem is_f (n : Int) : reach_is.f n = some (decide (0 ≤ n ∧ n < 90)) := by
  unfold reach_is.f
  by_cases h : n ≥ 0
  · rw [if_pos h]; congr 1; simp only [decide_eq_decide]; omega
  · rw [if_neg h]; congr 1; symm; simp only [decide_eq_false_iff_not]; omega
theorem file_f (n : Nat) (hn : n < 90) : board_File.f (n : Int) = some ((n % 9 : Nat) : Int) := by
  unfold board_File.f
  rw [square_f]
  simp only [Option.bind_some]
  rw [if_pos (by simp; omega), mod9 ⟨n, hn⟩]
theorem rank_f (n : Nat) (hn : n < 90) : board_Rank.f (n : Int) = some ((n / 9 : Nat) : Int) := by
  unfold board_Rank.f
  rw [square_f]
  simp only [Option.bind_some]
  rw [if_pos (by simp; omega), div9 ⟨n, hn⟩]
theorem step_f (s : ByteArray) (n : Nat) (c df dr : Int) (hn : n < 90) (h1 : -100 ≤ df ∧ df ≤ 100) (h2 : -100 ≤ dr ∧ dr ≤ 100) : reach_view_step.f s (n : Int) c df dr = some (stepN n df dr) := by
  unfold reach_view_step.f board_Square.f stepN
  rw [file_f n hn, rank_f n hn]
  simp only [Option.bind_some]
  have hf : n % 9 < 9 := Nat.mod_lt _ (by omega)
  have hr : n / 9 < 10 := by omega
  generalize n % 9 = f at *
  generalize n / 9 = r at *
  rw [wrap_small ((f : Int) + df) (by omega) (by omega), wrap_small ((r : Int) + dr) (by omega) (by omega)]
  by_cases c1 : (f : Int) + df < 0
  · rw [if_pos c1, if_neg (by omega)]; rfl
  rw [if_neg c1]
  by_cases c2 : (f : Int) + df ≥ 9
  · rw [if_pos c2, if_neg (by omega)]; rfl
  rw [if_neg c2]
  by_cases c3 : (r : Int) + dr < 0
  · rw [if_pos c3, if_neg (by omega)]; rfl
  rw [if_neg c3]
  by_cases c4 : (r : Int) + dr ≥ 10
  · rw [if_pos c4, if_neg (by omega)]; rfl
  rw [if_neg c4, if_pos (by omega), wrap_small (9 * ((r : Int) + dr)) (by omega) (by omega), wrap_small _ (by omega) (by omega)]
  rfl
theorem four_f (s : ByteArray) (n : Nat) (c df dr : Int) (hn : n < 90) (h1 : -50 ≤ df ∧ df ≤ 50) (h2 : -50 ≤ dr ∧ dr ≤ 50) :
    reach_view_four.f s (n : Int) c df dr = some [stepN n df dr, stepN n (-df) dr, stepN n df (-dr), stepN n (-df) (-dr)] := by
  unfold reach_view_four.f
  rw [wrap_small (-df) (by omega) (by omega), wrap_small (-dr) (by omega) (by omega)]
  rw [step_f s n c _ _ hn (by omega) (by omega), step_f s n c _ _ hn (by omega) (by omega), step_f s n c _ _ hn (by omega) (by omega), step_f s n c _ _ hn (by omega) (by omega)]
  rfl

theorem optFilter_some {f : Int → Option Bool} {l : List Int} (h : ∀ x ∈ l, ∃ b, f x = some b) : ∃ r, optFilter f l = some r ∧ (∀ x, x ∈ r ↔ x ∈ l ∧ f x = some true) ∧ r.length ≤ l.length := by
  refine ⟨l.filter (fun x => (f x).getD false), ?_, ?_, List.length_filter_le _ _⟩
  · unfold optFilter
    rw [if_pos]
    rw [List.all_eq_true]
    intro x hx
    obtain ⟨b, hb⟩ := h x hx
    rw [hb]; rfl
  · intro x
    rw [List.mem_filter]
    constructor
    · rintro ⟨hx, h2⟩
      obtain ⟨b, hb⟩ := h x hx
      rw [hb] at h2
      simp at h2
      subst h2
      exact ⟨hx, hb⟩
    · rintro ⟨hx, h2⟩
      exact ⟨hx, by rw [h2]; rfl⟩

theorem may_none : ∀ x ∈ letters, place_May.f ((x : Nat) : Int) (-1) = some false := by decide +kernel
theorem may_f (x : Nat) (hx : x ∈ letters) (n : Int) (hn : -1 ≤ n ∧ n < 90) : ∃ b, place_May.f (x : Int) n = some b ∧ (b = true ↔ 0 ≤ n ∧ mayN x n.toNat = true) := by
  by_cases h : n = -1
  · subst h
    exact ⟨false, may_none x hx, by simp⟩
  · have := may_all x hx ⟨n.toNat, by omega⟩
    simp only at this
    rw [show ((n.toNat : Nat) : Int) = n from by omega] at this
    exact ⟨_, this, ⟨fun h => ⟨by omega, h⟩, fun h => h.2⟩⟩
theorem allowed_f (s : ByteArray) (n : Int) (x : Nat) (hx : x ∈ letters) (l : List Int) (hl : ∀ y ∈ l, -1 ≤ y ∧ y < 90) : ∃ r, reach_view_allowed.f s n (x : Int) l = some r ∧ (∀ t : Nat, t < 90 → ((t : Int) ∈ r ↔ (t : Int) ∈ l ∧ mayN x t = true)) ∧ (∀ y ∈ r, 0 ≤ y ∧ y < 90) ∧ r.length ≤ l.length := by
  obtain ⟨r, h1, h2, h3⟩ := optFilter_some (f := place_May.f (x : Int)) (l := l) (fun y hy => by obtain ⟨b, hb, _⟩ := may_f x hx y (hl y hy); exact ⟨b, hb⟩)
  refine ⟨r, h1, fun t ht => ?_, fun y hy => ?_, h3⟩
  · rw [h2]
    obtain ⟨b, hb, hbb⟩ := may_f x hx (t : Int) (by omega)
    rw [hb]
    constructor
    · rintro ⟨a1, a2⟩
      refine ⟨a1, ?_⟩
      have := (hbb.1 (Option.some.inj a2)).2
      simpa using this
    · rintro ⟨a1, a2⟩
      exact ⟨a1, by rw [hbb.2 ⟨by omega, by simpa using a2⟩]⟩
  · obtain ⟨a1, a2⟩ := (h2 y).1 hy
    obtain ⟨b, hb, hbb⟩ := may_f x hx y (hl y a1)
    rw [hb] at a2
    have := (hbb.1 (Option.some.inj a2)).1
    exact ⟨this, (hl y a1).2⟩

/-- What a way's list owes. -/
def WayOk (c : Nat → Nat) (n : Nat) (l : List Int) : Prop := (∀ t : Nat, t < 90 → ((t : Int) ∈ l ↔ canN c n t = true)) ∧ (∀ y ∈ l, -1 ≤ y ∧ y < 90) ∧ l.length ≤ 1000

theorem general_f (s : ByteArray) (hs : isBoard s = true) (n : Nat) (hn : n < 90) (hk : kindN (cel s n) = 75) : ∃ l, reach_view_general.f s n (cel s n : Nat) = some l ∧ WayOk (cel s) n l := by
  have hr := (four_range ⟨n, hn⟩).1
  obtain ⟨r, h1, h2, h3, h4⟩ := allowed_f s n (cel s n) (board_letter hs hn) ([stepN n 1 0, stepN n (-1) 0, stepN n 1 0, stepN n (-1) 0] ++ [stepN n 0 1, stepN n 0 1, stepN n 0 (-1), stepN n 0 (-1)]) hr
  refine ⟨r, ?_, fun t ht => ?_, fun y hy => ⟨by have := (h3 y hy).1; omega, (h3 y hy).2⟩, by simp at h4; omega⟩
  · unfold reach_view_general.f
    rw [four_f s n _ 1 0 hn (by omega) (by omega)]
    simp only [Option.bind_some]
    rw [four_f s n _ 0 1 hn (by omega) (by omega)]
    simp only [Option.bind_some, Int.neg_zero]
    rw [if_pos (by simp), h1]
    rfl
  · rw [h2 t ht]
    unfold canN
    rw [if_pos hk]
    have := king_geo ⟨n, hn⟩ ⟨t, ht⟩
    simp only [kingL] at this
    simp only [List.cons_append, List.nil_append, Bool.and_eq_true, beq_iff_eq]
    rw [this]
theorem advisor_f (s : ByteArray) (hs : isBoard s = true) (n : Nat) (hn : n < 90) (hk : kindN (cel s n) = 65) : ∃ l, reach_view_advisor.f s n (cel s n : Nat) = some l ∧ WayOk (cel s) n l := by
  have hr := (four_range ⟨n, hn⟩).2.1
  obtain ⟨r, h1, h2, h3, h4⟩ := allowed_f s n (cel s n) (board_letter hs hn) _ hr
  refine ⟨r, ?_, fun t ht => ?_, fun y hy => ⟨by have := (h3 y hy).1; omega, (h3 y hy).2⟩, by simp [fourL] at h4; omega⟩
  · unfold reach_view_advisor.f
    rw [four_f s n _ 1 1 hn (by omega) (by omega)]
    simp only [Option.bind_some]
    unfold fourL at h1
    rw [h1]
    rfl
  · rw [h2 t ht]
    unfold canN
    rw [if_neg (by omega), if_pos hk]
    have := adv_geo ⟨n, hn⟩ ⟨t, ht⟩
    simp only at this
    simp only [Bool.and_eq_true, beq_iff_eq]
    rw [this]
theorem empty_f (s : ByteArray) (hs : s.size = 90) (n c m : Int) : reach_view_empty.f s n c m = some (decide (0 ≤ m ∧ m < 90) && (cel s m.toNat == 46)) := by
  unfold reach_view_empty.f
  rw [is_f]
  simp only [Option.bind_some]
  by_cases h : 0 ≤ m ∧ m < 90
  · rw [if_pos (by simpa using h), if_pos h.1, if_pos (by omega)]
    have : bt s m = ((cel s m.toNat : Nat) : Int) := by rw [← bt_cel]; congr 1; omega
    rw [this]
    congr 1
    rw [Bool.eq_iff_iff, beq_iff_eq, Bool.and_eq_true, decide_eq_true_iff, beq_iff_eq]
    constructor
    · intro h2; exact ⟨h, by omega⟩
    · intro h2; omega
  · rw [if_neg (by simpa using h)]
    simp [h]
theorem elephant_f (s : ByteArray) (hs : isBoard s = true) (n : Nat) (hn : n < 90) (hk : kindN (cel s n) = 66) : ∃ l, reach_view_elephant.f s n (cel s n : Nat) = some l ∧ WayOk (cel s) n l := by
  have hr := (four_range ⟨n, hn⟩).2.2
  obtain ⟨r, h1, h2, h3, h4⟩ := allowed_f s n (cel s n) (board_letter hs hn) _ hr
  obtain ⟨r', g1, g2, g3⟩ := optFilter_some (f := fun x => reach_view_empty.f s n (cel s n : Nat) (wrap64 (Int.tdiv (wrap64 ((n : Int) + x)) 2))) (l := r) (fun y hy => ⟨_, empty_f s (board_size hs) _ _ _⟩)
  refine ⟨r', ?_, fun t ht => ?_, fun y hy => ?_, by simp [fourL] at h4; omega⟩
  · unfold reach_view_elephant.f
    rw [four_f s n _ 2 2 hn (by omega) (by omega)]
    simp only [Option.bind_some]
    unfold fourL at h1
    rw [h1]
    simp only [Option.bind_some]
    exact g1
  · rw [g2, h2 t ht]
    have hh : wrap64 (Int.tdiv (wrap64 ((n : Int) + (t : Int))) 2) = (((n + t) / 2 : Nat) : Int) := half2 ⟨n, hn⟩ ⟨t, ht⟩
    rw [hh, empty_f s (board_size hs)]
    unfold canN
    rw [if_neg (by omega), if_neg (by omega), if_pos hk]
    have := ele_geo ⟨n, hn⟩ ⟨t, ht⟩
    simp only at this
    rw [this]
    have hd : (0 : Int) ≤ (((n + t) / 2 : Nat) : Int) ∧ (((n + t) / 2 : Nat) : Int) < 90 := by omega
    simp only [Option.some.injEq, Bool.and_eq_true, beq_iff_eq, decide_eq_true_eq, Int.toNat_natCast]
    constructor
    · rintro ⟨⟨⟨a, b⟩, c⟩, d, e⟩; exact ⟨⟨⟨a, b⟩, c⟩, e⟩
    · rintro ⟨⟨⟨a, b⟩, c⟩, e⟩; exact ⟨⟨⟨a, b⟩, c⟩, hd, e⟩
  · obtain ⟨a1, _⟩ := (g2 y).1 hy
    exact ⟨by have := (h3 y a1).1; omega, (h3 y a1).2⟩
theorem pawn_f (s : ByteArray) (hs : isBoard s = true) (n : Nat) (hn : n < 90) (hk : kindN (cel s n) = 80) : ∃ l, reach_view_pawn.f 3 s n (cel s n : Nat) = some l ∧ WayOk (cel s) n l := by
  have hc := cel_lt s n
  have hside : sideN (cel s n) = 0 ∨ sideN (cel s n) = 1 := by
    unfold kindN at hk
    unfold sideN
    split
    · exact .inl rfl
    · rename_i h1
      rw [if_neg h1] at hk
      split
      · exact .inr rfl
      · rename_i h2
        rw [if_neg h2] at hk
        omega
  have hsd := side_f (cel s n) hc
  generalize hside' : sideN (cel s n) = side at *
  obtain ⟨b, hb⟩ : ∃ b : Fin 2, side = ((b.1 : Nat) : Int) := by
    rcases hside with h | h
    · exact ⟨0, h⟩
    · exact ⟨1, h⟩
  have ho := over_all b ⟨n, hn⟩
  have hg := pawn_geo b ⟨n, hn⟩
  have hrg := pawn_range b ⟨n, hn⟩
  rw [← hb] at ho hg hrg
  simp only at ho hg hrg
  refine ⟨pawnL side n, ?_, fun t ht => ?_, hrg, ?_⟩
  · unfold reach_view_pawn.f pawnL
    rw [hsd]
    simp only [Option.bind_some]
    rw [wrap_small (2 * side) (by omega) (by omega), wrap_small (1 - 2 * side) (by omega) (by omega), step_f s n _ _ _ hn (by omega) (by omega)]
    simp only [Option.bind_some]
    rw [ho]
    simp only [Option.bind_some]
    cases overN n side with
    | true =>
      rw [if_pos rfl, step_f s n _ _ _ hn (by omega) (by omega), step_f s n _ _ _ hn (by omega) (by omega)]
      simp
    | false => rw [if_neg (by simp)]; simp
  · unfold canN
    rw [if_neg (by omega), if_neg (by omega), if_neg (by omega), if_neg (by omega), if_neg (by omega), if_neg (by omega), hside']
    exact hg ⟨t, ht⟩
  · unfold pawnL; split <;> simp
end Go.Proofs.Ytcanbidenhcohaa.P

/- Plain law: the reference's Fast, All, Can, Between, as printed, are the document's. -/
namespace Go.Proofs.Ytcanbidenhcohaa.P
open Go.RowKit Go.Lib Go.Proofs.YtcanbidenhcohaaW.PrintWords Go.Proofs.YtcanbidenhcohaaW.PrintLast Go.Proofs.YtcanbidenhcohaaW.PrintMore
open Sp
set_option linter.unusedVariables false
set_option linter.unusedSimpArgs false

theorem half_all : ∀ a b : Fin 90, wrap64 (Int.tdiv (wrap64 (((a.1 : Nat) : Int) + ((b.1 : Nat) : Int))) 2) = (((a.1 + b.1) / 2 : Nat) : Int) := by decide +kernel
theorem leg_all : ∀ a b : Fin 90, (away (a.1 % 9) (b.1 % 9) = 1 → away (a.1 / 9) (b.1 / 9) = 2 → legN a.1 b.1 < 90 ∧ ((legN a.1 b.1 = a.1 + 9 ∧ b.1 / 9 > a.1 / 9) ∨ (legN a.1 b.1 + 9 = a.1 ∧ ¬ b.1 / 9 > a.1 / 9))) ∧
    (away (a.1 % 9) (b.1 % 9) = 2 → away (a.1 / 9) (b.1 / 9) = 1 → legN a.1 b.1 < 90 ∧ ((legN a.1 b.1 = a.1 + 1 ∧ b.1 % 9 > a.1 % 9) ∨ (legN a.1 b.1 + 1 = a.1 ∧ ¬ b.1 % 9 > a.1 % 9))) := by decide +kernel
theorem half_f (s : ByteArray) (hs : s.size = 90) (p q a d g : Nat) (ha : a < 90) (hd : d ≤ 9) (hg : g < 90) (h : (g = a + d ∧ q > p) ∨ (g + d = a ∧ ¬ q > p)) : riverbankref05_half.f (p : Int) (q : Int) (a : Int) s (d : Int) = some (cel s g == 46) := by
  unfold riverbankref05_half.f
  have hb : ((bt s (g : Int)) == 46) = (cel s g == 46) := by rw [bt_cel, Bool.eq_iff_iff, beq_iff_eq, beq_iff_eq]; omega
  rcases h with ⟨h1, h2⟩ | ⟨h1, h2⟩
  · have hw : wrap64 ((a : Int) + (d : Int)) = (g : Int) := by rw [wrap_small _ (by omega) (by omega)]; omega
    rw [if_pos (by omega), hw, if_pos (by omega), if_pos (by omega), hb]
  · have hw : wrap64 ((a : Int) - (d : Int)) = (g : Int) := by rw [wrap_small _ (by omega) (by omega)]; omega
    rw [if_neg (by omega), hw, if_pos (by omega), if_pos (by omega), hb]
theorem rhorse_f (s : ByteArray) (hs : s.size = 90) (a b k : Nat) (ha : a < 90) (hb : b < 90) (hk : 1 ≤ k) : riverbankref05_horse.f k s (a : Int) (b : Int) = some (horseN (cel s) a b) := by
  obtain ⟨k, rfl⟩ : ∃ m, k = m + 1 := ⟨k - 1, by omega⟩
  have da := div9 ⟨a, ha⟩
  have db := div9 ⟨b, hb⟩
  have ma := mod9 ⟨a, ha⟩
  have mb := mod9 ⟨b, hb⟩
  obtain ⟨l1, l2⟩ := leg_all ⟨a, ha⟩ ⟨b, hb⟩
  simp only at da db ma mb l1 l2
  unfold riverbankref05_horse.f horseN
  rw [ma, mb, da, db, away_f _ _ (by omega) (by omega)]
  simp only [Option.bind_some]
  rw [away_f _ _ (by omega) (by omega)]
  simp only [Option.bind_some]
  generalize hf : away (a % 9) (b % 9) = f at *
  generalize hr : away (a / 9) (b / 9) = r at *
  by_cases f1 : f = 1
  · subst f1
    rw [if_pos (by simp)]
    by_cases r2 : r = 2
    · subst r2
      simp only [riverbankref05_horse.j0]
      rw [if_pos (by decide), da, db]
      obtain ⟨hg, h⟩ := l1 rfl rfl
      have := half_f s hs (a / 9) (b / 9) a 9 (legN a b) ha (by omega) hg h
      rw [show ((9 : Nat) : Int) = 9 from rfl] at this
      rw [this]
      simp
    · simp only [riverbankref05_horse.j0]
      rw [if_neg (by simp; omega), if_neg (by omega)]
      simp [r2]
  · rw [if_neg (by omega)]
    simp only [riverbankref05_horse.j0]
    rw [if_neg (by simp)]
    by_cases f2 : f = 2
    · subst f2
      rw [if_pos (by simp)]
      by_cases r1 : r = 1
      · subst r1
        rw [if_pos (by simp), ma, mb]
        obtain ⟨hg, h⟩ := l2 rfl rfl
        have := half_f s hs (a % 9) (b % 9) a 1 (legN a b) ha (by omega) hg h
        rw [show ((1 : Nat) : Int) = 1 from rfl] at this
        rw [this]
        simp
      · rw [if_neg (by omega)]
        simp [r1]
    · rw [if_neg (by omega)]
      simp [f1, f2]

theorem int_eq_iff (x y : Nat) : ((x : Int) = (y : Int)) ↔ x = y := by omega
theorem side01 (x : Nat) (hx : x < 256) : sideN x = -1 ∨ sideN x = 0 ∨ sideN x = 1 := by unfold sideN; split; · simp
                                                                                         · split <;> simp
theorem rpawn_f (side : Int) (h : side = 0 ∨ side = 1) (a b k : Nat) (ha : a < 90) (hb : b < 90) (hk : 1 ≤ k) : riverbankref05_pawn.f k side (a : Int) (b : Int) = some (pawnN side a b) := by
  rcases h with rfl | rfl
  · exact at_rounds (riverbankref05_pawn.mono _ _ _) hk (rpawn_all 0 ⟨a, ha⟩ ⟨b, hb⟩)
  · exact at_rounds (riverbankref05_pawn.mono _ _ _) hk (rpawn_all 1 ⟨a, ha⟩ ⟨b, hb⟩)

theorem rcan_f (s : ByteArray) (hs : isBoard s = true) (a b k : Nat) (ha : a < 90) (hb : b < 90) (hside : 0 ≤ sideN (cel s a)) (hk : 101 ≤ k) : riverbankref05_can.f k s (a : Int) (b : Int) = some (canN (cel s) a b) := by
  have hz := board_size hs
  have da := div9 ⟨a, ha⟩
  have db := div9 ⟨b, hb⟩
  have ma := mod9 ⟨a, ha⟩
  have mb := mod9 ⟨b, hb⟩
  have hh := half_all ⟨a, ha⟩ ⟨b, hb⟩
  simp only at da db ma mb hh
  have hlet := board_letter hs ha
  have hm := rmay_f (cel s a) b k hlet hb (by omega)
  have hca := cel_lt s a
  have aw1 : away (a % 9) (b % 9) ≤ 8 := by unfold away; split <;> omega
  have aw2 : away (a / 9) (b / 9) ≤ 9 := by unfold away; split <;> omega
  have hb46 : ∀ n : Nat, ((bt s (n : Int)) == 46) = (cel s n == 46) := fun n => by rw [bt_cel, Bool.eq_iff_iff, beq_iff_eq, beq_iff_eq]; omega
  have hbn46 : ∀ n : Nat, ((bt s (n : Int)) != 46) = (cel s n != 46) := fun n => by rw [bt_cel, Bool.eq_iff_iff, bne_iff_ne, bne_iff_ne]; omega
  unfold riverbankref05_can.f canN
  rw [if_pos (by omega), if_pos (by omega), ma, mb, da, db, away_f _ _ (by omega) (by omega), away_f _ _ (by omega) (by omega)]
  simp only [Option.bind_some]
  rw [wrap_small _ (by omega) (by omega), bt_cel, rkind_f _ _ hca (by omega)]
  simp only [Option.bind_some]
  have hw : (((away (a % 9) (b % 9) : Nat) : Int) + ((away (a / 9) (b / 9) : Nat) : Int) = 1) ↔ (away (a % 9) (b % 9) + away (a / 9) (b / 9) = 1) := by omega
  generalize away (a % 9) (b % 9) = f at *
  generalize away (a / 9) (b / 9) = r at *
  generalize hkk : kindN (cel s a) = kk at *
  by_cases k1 : kk = 75
  · rw [if_pos (by omega), if_pos k1, hm]
    simp only [Option.bind_some]
    by_cases h1 : f + r = 1
    · rw [if_pos (hw.mpr h1)]; simp [h1]
    · rw [if_neg (fun h => h1 (hw.mp h))]; simp [h1]
  rw [if_neg (by omega), if_neg k1]
  by_cases k2 : kk = 65
  · rw [if_pos (by omega), if_pos k2, hm]
    simp only [Option.bind_some]
    by_cases h1 : f = 1
    · rw [if_pos (by omega)]
      by_cases h2 : r = 1
      · rw [if_pos (by omega)]; simp [h1, h2]
      · rw [if_neg (by omega)]; simp [h2]
    · rw [if_neg (by omega)]; simp [h1]
  rw [if_neg (by omega), if_neg k2]
  by_cases k3 : kk = 66
  · rw [if_pos (by omega), if_pos k3, hm, hh]
    simp only [Option.bind_some]
    by_cases h1 : f = 2
    · rw [if_pos (by omega)]
      by_cases h2 : r = 2
      · rw [if_pos (by omega)]
        cases hmay : mayN (cel s a) b with
        | true =>
          rw [if_pos rfl, if_pos (by omega), if_pos (by omega), hb46]
          simp [h1, h2]
        | false => rw [if_neg (by simp)]; simp
      · rw [if_neg (by omega)]; simp [h2]
    · rw [if_neg (by omega)]; simp [h1]
  rw [if_neg (by omega), if_neg k3]
  by_cases k4 : kk = 78
  · rw [if_pos (by omega), if_pos k4, rhorse_f s hz a b k ha hb (by omega)]
    rfl
  rw [if_neg (by omega), if_neg k4]
  by_cases k5 : kk = 82
  · rw [if_pos (by omega), if_pos k5, rbetween_f s hz a b k ha hb (by omega)]
    rfl
  rw [if_neg (by omega), if_neg k5]
  by_cases k6 : kk = 67
  · rw [if_pos (by omega), if_pos k6, rbetween_f s hz a b k ha hb (by omega)]
    simp only [Option.bind_some]
    generalize betwN (cel s) a b = t
    by_cases t0 : t = 0
    · subst t0
      rw [if_pos rfl, if_pos (by omega), if_pos (by omega)]
      by_cases hc : cel s b = 46
      · rw [if_pos (by rw [bt_cel]; omega)]; simp [hc]
      · rw [if_neg (by rw [bt_cel]; omega), if_neg (by omega)]; simp [hc]
    · rw [if_neg t0]
      by_cases t1 : t = 1
      · subst t1
        rw [if_pos rfl, if_pos (by omega), if_pos (by omega), hbn46]; simp
      · rw [if_neg t1]; simp [t0, t1]
  rw [if_neg (by omega), if_neg k6, rside_f _ _ hca (by omega)]
  simp only [Option.bind_some]
  rw [rpawn_f _ (by rcases side01 _ hca with h | h | h; · omega
                    · exact .inl h
                    · exact .inr h) a b k ha hb (by omega)]
  rfl

theorem rfast_f (s : ByteArray) (hs : isBoard s = true) (a b k : Nat) (ha : a < 90) (hb : b < 90) (hk : 101 ≤ k) : riverbankref05_Fast.f k s (a : Int) (b : Int) = some (fastN (cel s) a b) := by
  have hz := board_size hs
  unfold riverbankref05_Fast.f fastN
  rw [if_pos (by omega), if_pos (by omega), bt_cel, rside_f _ _ (cel_lt s a) (by omega)]
  simp only [Option.bind_some]
  by_cases h1 : sideN (cel s a) < 0
  · rw [if_pos h1]
    have : ¬ (0 ≤ sideN (cel s a)) := by omega
    simp [this]
  · rw [if_neg h1, if_pos (by omega), if_pos (by omega), bt_cel, rside_f _ _ (cel_lt s b) (by omega)]
    simp only [Option.bind_some]
    by_cases h2 : sideN (cel s b) = sideN (cel s a)
    · rw [if_pos h2]; simp [h2]
    · rw [if_neg h2, rcan_f s hs a b k ha hb (by omega) hk]
      have : 0 ≤ sideN (cel s a) := by omega
      simp [h2, this]
end Go.Proofs.Ytcanbidenhcohaa.P

/- Plain law: the reference's Is, All, Can, Between, as printed. -/
namespace Go.Proofs.Ytcanbidenhcohaa.P
open Go.RowKit Go.Lib Go.Proofs.YtcanbidenhcohaaW.PrintWords Go.Proofs.YtcanbidenhcohaaW.PrintLast Go.Proofs.YtcanbidenhcohaaW.PrintMore
open Sp
set_option linter.unusedVariables false
set_option linter.unusedSimpArgs false

theorem side_cell : ∀ x : Fin 256, (cellB x.1 = (x.1 == 46 || decide (0 ≤ sideN x.1))) := by decide +kernel
theorem cellB_side (x : Nat) (hx : x < 256) : cellB x = (x == 46 || decide (0 ≤ sideN x)) := side_cell ⟨x, hx⟩

theorem ris_l0 (s : ByteArray) (hs : s.size = 90) (rem : Nat) : ∀ (i k : Nat), i + rem = 90 → rem + 1 < k → riverbankref02_Is.l0 k s i = some ((List.range rem).all (fun t => cellB (cel s (i + t)))) := by
  induction rem with
  | zero =>
    intro i k hi hk
    obtain ⟨k, rfl⟩ : ∃ m, k = m + 1 := ⟨k - 1, by omega⟩
    simp only [riverbankref02_Is.l0]
    rw [if_neg (by omega)]; rfl
  | succ rem ih =>
    intro i k hi hk
    obtain ⟨k, rfl⟩ : ∃ m, k = m + 1 := ⟨k - 1, by omega⟩
    have hw : wrap64 ((i : Int) + 1) = ((i + 1 : Nat) : Int) := by rw [wrap_small _ (by omega) (by omega)]; omega
    have hr : (List.range (rem + 1)).all (fun t => cellB (cel s (i + t))) = (cellB (cel s i) && (List.range rem).all (fun t => cellB (cel s (i + 1 + t)))) := by
      rw [List.range_succ_eq_map, List.all_cons, List.all_map, Nat.add_zero]
      congr 1
      congr 1
      funext t
      simp only [Function.comp, Nat.succ_eq_add_one]
      congr 2
      omega
    have i1 := ih (i + 1) k (by omega) (by omega)
    have hcb := cellB_side (cel s i) (cel_lt s i)
    simp only [riverbankref02_Is.l0]
    rw [if_pos (by omega), if_pos (by omega), if_pos (by omega), bt_cel, hr, hw, i1]
    by_cases h46 : cel s i = 46
    · rw [if_pos (by omega)]
      simp [hcb, h46, show cellB 46 = true from rfl]
    · rw [if_neg (by omega), rside_f _ _ (cel_lt s i) (by omega)]
      simp only [Option.bind_some]
      by_cases hsd : sideN (cel s i) < 0
      · rw [if_pos hsd]
        have : ¬ (0 ≤ sideN (cel s i)) := by omega
        simp [hcb, h46, this]
      · rw [if_neg hsd]
        have : 0 ≤ sideN (cel s i) := by omega
        simp [hcb, this]

theorem isBoard_all (s : ByteArray) (hs : s.size = 90) : isBoard s = (List.range 90).all (fun t => cellB (cel s t)) := by
  have hl : s.data.toList.length = 90 := by rw [Array.length_toList]; exact hs
  rw [isBoard, hs]
  simp only [beq_self_eq_true, Bool.true_and]
  rw [Bool.eq_iff_iff, List.all_eq_true, List.all_eq_true]
  have e : ∀ n (hn : n < s.data.toList.length), cel s n = (s.data.toList[n]'hn).toNat := by
    intro n hn
    unfold cel
    rw [← bt_at s (n : Int) (by omega)]
    simp only [Int.toNat_natCast]
    rw [Array.getElem_toList]
    rfl
  constructor
  · intro h n hn
    have hn' : n < s.data.toList.length := by rw [hl]; exact List.mem_range.mp hn
    rw [e n hn']
    exact h _ (List.getElem_mem hn')
  · intro h b hb
    obtain ⟨n, hn, rfl⟩ := List.getElem_of_mem hb
    rw [← e n hn]
    exact h n (List.mem_range.mpr (by omega))

theorem ris_f (s : ByteArray) (k : Nat) (hk : 92 ≤ k) : riverbankref02_Is.f k s = some (isBoard s) := by
  unfold riverbankref02_Is.f
  by_cases hs : s.size = 90
  · rw [if_pos (by omega), isBoard_all s hs]
    have := ris_l0 s hs 90 0 k (by omega) (by omega)
    simpa using this
  · rw [if_neg (by omega)]
    simp [isBoard, hs]

/-- The squares of a list, as whole numbers. -/
def ints (l : List Nat) : List Int := l.map (fun n : Nat => (n : Int))
/-- Which squares the piece on a reaches. -/
def allS (s : ByteArray) (a : Int) : List Nat := if isBoard s = true ∧ 0 ≤ a ∧ a < 90 then allN (cel s) a.toNat else []
def canS (s : ByteArray) (a b : Int) : Bool := isBoard s && decide (0 ≤ a ∧ a < 90 ∧ 0 ≤ b ∧ b < 90) && fastN (cel s) a.toNat b.toNat
def betwS (s : ByteArray) (a b : Int) : Int := if isBoard s = true ∧ 0 ≤ a ∧ a < 90 ∧ 0 ≤ b ∧ b < 90 then betwN (cel s) a.toNat b.toNat else -1

theorem rall_l0 (s : ByteArray) (hs : isBoard s = true) (a : Nat) (ha : a < 90) (rem : Nat) : ∀ (i k : Nat) (acc : List Int), i + rem = 90 → rem + 101 < k → acc.length ≤ i →
    riverbankref05_All.l0 k s a acc i = some (acc ++ ints (((List.range rem).map (fun t => i + t)).filter (fastN (cel s) a))) := by
  induction rem with
  | zero =>
    intro i k acc hi hk hacc
    obtain ⟨k, rfl⟩ : ∃ m, k = m + 1 := ⟨k - 1, by omega⟩
    simp only [riverbankref05_All.l0]
    rw [if_neg (by omega)]; simp [ints]
  | succ rem ih =>
    intro i k acc hi hk hacc
    obtain ⟨k, rfl⟩ : ∃ m, k = m + 1 := ⟨k - 1, by omega⟩
    have hw : wrap64 ((i : Int) + 1) = ((i + 1 : Nat) : Int) := by rw [wrap_small _ (by omega) (by omega)]; omega
    have hr : (List.range (rem + 1)).map (fun t => i + t) = i :: (List.range rem).map (fun t => i + 1 + t) := by
      rw [List.range_succ_eq_map, List.map_cons, List.map_map, Nat.add_zero]
      congr 1
      apply List.map_congr_left
      intro t _
      simp only [Function.comp, Nat.succ_eq_add_one]
      omega
    simp only [riverbankref05_All.l0]
    rw [if_pos (by omega), rfast_f s hs a i k ha (by omega) (by omega)]
    simp only [Option.bind_some]
    rw [hr, List.filter_cons, hw]
    cases hf : fastN (cel s) a i with
    | true =>
      rw [if_pos rfl, if_pos rfl, if_pos (by omega), ih (i + 1) k _ (by omega) (by omega) (by rw [List.length_append, List.length_singleton]; omega)]
      simp [ints]
    | false =>
      rw [if_neg (by simp), if_neg (by simp), ih (i + 1) k _ (by omega) (by omega) (by omega)]

theorem rall_f (s : ByteArray) (a : Int) (k : Nat) (hk : 200 ≤ k) : riverbankref05_All.f k s a = some (ints (allS s a)) := by
  unfold riverbankref05_All.f allS riverbankref05_real.f
  rw [ris_f s k (by omega)]
  simp only [Option.bind_some]
  obtain ⟨k, rfl⟩ : ∃ m, k = m + 1 := ⟨k - 1, by omega⟩
  cases hs : isBoard s with
  | false =>
    rw [if_neg (by simp), if_neg (by simp)]
    simp only [riverbankref05_All.j0]
    rfl
  | true =>
    rw [if_pos rfl]
    by_cases h0 : a ≥ 0
    · rw [if_pos h0]
      simp only [Option.bind_some, riverbankref05_All.j0]
      by_cases h1 : a < 90
      · rw [if_neg (by simp; omega), if_pos (by refine ⟨?_, h0, h1⟩; trivial)]
        have := rall_l0 s hs a.toNat (by omega) 90 0 k [] (by omega) (by omega) (by simp)
        rw [show ((a.toNat : Nat) : Int) = a from by omega] at this
        rw [show ((0 : Nat) : Int) = 0 from rfl] at this
        rw [this]
        simp [allN]
      · rw [if_pos (by simp; omega), if_neg (fun h => h1 h.2.2)]
        rfl
    · rw [if_neg h0]
      simp only [Option.bind_some, riverbankref05_All.j0]
      rw [if_pos (by simp), if_neg (fun h => h0 h.2.1)]
      rfl

theorem rcanS_f (s : ByteArray) (a b : Int) (k : Nat) (hk : 200 ≤ k) : riverbankref05_Can.f k s a b = some (canS s a b) := by
  unfold riverbankref05_Can.f canS riverbankref05_real.f
  rw [ris_f s k (by omega)]
  simp only [Option.bind_some]
  cases hs : isBoard s with
  | false => simp
  | true =>
    rw [if_pos rfl]
    by_cases h0 : a ≥ 0
    · rw [if_pos h0]
      by_cases h1 : a < 90
      · simp only [Option.bind_some]
        rw [if_pos (by simpa using h1)]
        by_cases h2 : b ≥ 0
        · rw [if_pos h2]
          by_cases h3 : b < 90
          · simp only [Option.bind_some]
            rw [if_pos (by simpa using h3)]
            have := rfast_f s hs a.toNat b.toNat k (by omega) (by omega) (by omega)
            rw [show ((a.toNat : Nat) : Int) = a from by omega, show ((b.toNat : Nat) : Int) = b from by omega] at this
            rw [this]
            have hd : (0 ≤ a ∧ a < 90 ∧ 0 ≤ b ∧ b < 90) := ⟨h0, h1, h2, h3⟩
            simp [hd]
          · simp only [Option.bind_some]
            rw [if_neg (by simpa using h3)]
            simp [h3]
        · rw [if_neg h2]
          have : ¬ 0 ≤ b := h2
          simp [this]
      · simp only [Option.bind_some]
        rw [if_neg (by simpa using h1)]
        simp [h1]
    · rw [if_neg h0]
      have : ¬ 0 ≤ a := h0
      simp [this]

theorem rbetwS_f (s : ByteArray) (a b : Int) (k : Nat) (hk : 200 ≤ k) : riverbankref05_Between.f k s a b = some (betwS s a b) := by
  unfold riverbankref05_Between.f betwS riverbankref05_real.f
  rw [ris_f s k (by omega)]
  simp only [Option.bind_some]
  cases hs : isBoard s with
  | false => simp
  | true =>
    rw [if_pos rfl]
    by_cases h0 : a ≥ 0
    · rw [if_pos h0]
      by_cases h1 : a < 90
      · simp only [Option.bind_some]
        rw [if_pos (by simpa using h1)]
        by_cases h2 : b ≥ 0
        · rw [if_pos h2]
          by_cases h3 : b < 90
          · simp only [Option.bind_some]
            rw [if_pos (by simpa using h3)]
            have := rbetween_f s (board_size hs) a.toNat b.toNat k (by omega) (by omega) (by omega)
            rw [show ((a.toNat : Nat) : Int) = a from by omega, show ((b.toNat : Nat) : Int) = b from by omega] at this
            rw [this, if_pos (by refine ⟨?_, h0, h1, h2, h3⟩; trivial)]
            rfl
          · simp only [Option.bind_some]
            rw [if_neg (by simpa using h3), if_neg (fun h => h3 h.2.2.2.2)]
        · rw [if_neg h2, if_neg (fun h => h2 h.2.2.2.1)]
          simp
      · simp only [Option.bind_some]
        rw [if_neg (by simpa using h1), if_neg (fun h => h1 h.2.2.1)]
    · rw [if_neg h0]
      simp only [Option.bind_some]
      rw [if_neg (by simp), if_neg (fun h => h0 h.2.1)]
end Go.Proofs.Ytcanbidenhcohaa.P

/- Plain law: the program's ways along lines and of the horse; reach.All, as printed, is the document's. -/
namespace Go.Proofs.Ytcanbidenhcohaa.P
open Go.RowKit Go.Lib Go.Proofs.YtcanbidenhcohaaW.PrintWords Go.Proofs.YtcanbidenhcohaaW.PrintLast Go.Proofs.YtcanbidenhcohaaW.PrintMore
open Sp
set_option linter.unusedVariables false
set_option linter.unusedSimpArgs false

abbrev dirL : List (S81) := [(⟨1, 0⟩ : S81), (⟨(-1), 0⟩ : S81), (⟨0, 1⟩ : S81), (⟨0, (-1)⟩ : S81)]
theorem dir_at : ∀ i : Fin 4, (rd_T81 dirL ((i.1 : Nat) : Int)).f0 = (dirs[i.1]!).1 ∧ (rd_T81 dirL ((i.1 : Nat) : Int)).f1 = (dirs[i.1]!).2 ∧ dirs[i.1]! ∈ dirs := by decide +kernel
theorem dir_small : ∀ w ∈ dirs, -1 ≤ w.1 ∧ w.1 ≤ 1 ∧ -1 ≤ w.2 ∧ w.2 ≤ 1 := by decide
theorem dir_any (p : Int × Int → Prop) : (∃ w ∈ dirs, p w) ↔ ∃ i, i < 4 ∧ p (dirs[i]!) := by
  constructor
  · rintro ⟨w, hw, hp⟩
    obtain ⟨i, hi, rfl⟩ := List.getElem_of_mem hw
    exact ⟨i, hi, by rw [getElem!_pos dirs i hi]; exact hp⟩
  · rintro ⟨i, hi, hp⟩
    exact ⟨_, (dir_at ⟨i, hi⟩).2.2, hp⟩

/-! ### the horse -/
/-- What the horse gathers one way. -/
def horseAdd (s : ByteArray) (n : Nat) (w : Int × Int) : List Int := if decide (0 ≤ stepN n w.1 w.2 ∧ stepN n w.1 w.2 < 90) && (cel s (stepN n w.1 w.2).toNat == 46) then horseL n w else []
theorem horse_round (s : ByteArray) (hs : s.size = 90) (n : Nat) (hn : n < 90) (c : Int) (i k : Nat) (hi : i < 4) (acc : List Int) (hacc : acc.length ≤ 2 * i) :
    reach_view_horse.l0 (k + 1) acc dirL 4 i s n c = reach_view_horse.l0 k (acc ++ horseAdd s n (dirs[i]!)) dirL 4 ((i + 1 : Nat) : Int) s n c := by
  obtain ⟨e0, e1, hm⟩ := dir_at ⟨i, hi⟩
  simp only at e0 e1 hm
  obtain ⟨b1, b2, b3, b4⟩ := dir_small _ hm
  have hw : wrap64 ((i : Int) + 1) = ((i + 1 : Nat) : Int) := by rw [wrap_small _ (by omega) (by omega)]; omega
  simp only [reach_view_horse.l0]
  rw [if_pos (by omega), if_pos (by omega), if_pos (by simp; omega), e0, e1, hw]
  generalize dirs[i]! = w at *
  rw [step_f s n c _ _ hn (by omega) (by omega)]
  simp only [Option.bind_some]
  rw [empty_f s hs]
  simp only [Option.bind_some]
  unfold horseAdd
  cases hb : (decide (0 ≤ stepN n w.1 w.2 ∧ stepN n w.1 w.2 < 90) && (cel s (stepN n w.1 w.2).toNat == 46)) with
  | true =>
    rw [if_pos rfl, if_pos rfl, wrap_small (2 * w.1) (by omega) (by omega), wrap_small (2 * w.2) (by omega) (by omega), wrap_small (2 * w.1 + w.2) (by omega) (by omega), wrap_small (2 * w.2 + w.1) (by omega) (by omega), wrap_small (2 * w.1 - w.2) (by omega) (by omega), wrap_small (2 * w.2 - w.1) (by omega) (by omega),
      step_f s n c _ _ hn (by omega) (by omega), step_f s n c _ _ hn (by omega) (by omega)]
    simp only [Option.bind_some]
    rw [if_pos (by simp; omega)]
    rfl
  | false => rw [if_neg (by simp), if_neg (by simp), List.append_nil]
theorem horseAdd_len (s : ByteArray) (n : Nat) (w : Int × Int) : (horseAdd s n w).length ≤ 2 := by unfold horseAdd; split <;> simp [horseL]
theorem horse_f (s : ByteArray) (hs : isBoard s = true) (n : Nat) (hn : n < 90) (hk : kindN (cel s n) = 78) (k : Nat) (h5 : 5 ≤ k) : ∃ l, reach_view_horse.f k s n (cel s n : Nat) = some l ∧ WayOk (cel s) n l := by
  obtain ⟨k, rfl⟩ : ∃ m, k = m + 5 := ⟨k - 5, by omega⟩
  have hz := board_size hs
  have l0 := horseAdd_len s n (dirs[0]!)
  have l1 := horseAdd_len s n (dirs[1]!)
  have l2 := horseAdd_len s n (dirs[2]!)
  have l3 := horseAdd_len s n (dirs[3]!)
  refine ⟨((([] ++ horseAdd s n (dirs[0]!)) ++ horseAdd s n (dirs[1]!)) ++ horseAdd s n (dirs[2]!)) ++ horseAdd s n (dirs[3]!), ?_, fun t ht => ?_, fun y hy => ?_, by simp only [List.length_append, List.length_nil]; omega⟩
  · unfold reach_view_horse.f
    simp only [Option.bind_some]
    have e4 : ((([(⟨1, 0⟩ : S81), (⟨(-1), 0⟩ : S81), (⟨0, 1⟩ : S81), (⟨0, (-1)⟩ : S81)] : List (S81)).length : Nat) : Int) = 4 := rfl
    rw [e4]
    have r0 := horse_round s hz n hn (cel s n : Nat) 0 (k + 4) (by omega) [] (by simp)
    have r1 := horse_round s hz n hn (cel s n : Nat) 1 (k + 3) (by omega) ([] ++ horseAdd s n (dirs[0]!)) (by simp only [List.length_append, List.length_nil]; omega)
    have r2 := horse_round s hz n hn (cel s n : Nat) 2 (k + 2) (by omega) (([] ++ horseAdd s n (dirs[0]!)) ++ horseAdd s n (dirs[1]!)) (by simp only [List.length_append, List.length_nil]; omega)
    have r3 := horse_round s hz n hn (cel s n : Nat) 3 (k + 1) (by omega) ((([] ++ horseAdd s n (dirs[0]!)) ++ horseAdd s n (dirs[1]!)) ++ horseAdd s n (dirs[2]!)) (by simp only [List.length_append, List.length_nil]; omega)
    refine r0.trans (r1.trans (r2.trans (r3.trans ?_)))
    simp only [reach_view_horse.l0]
    rw [if_neg (by omega)]
  · unfold canN
    rw [if_neg (by omega), if_neg (by omega), if_neg (by omega), if_pos hk]
    have hg := horse_geo ⟨n, hn⟩ ⟨t, ht⟩
    simp only at hg
    have hmem : (t : Int) ∈ ((([] ++ horseAdd s n (dirs[0]!)) ++ horseAdd s n (dirs[1]!)) ++ horseAdd s n (dirs[2]!)) ++ horseAdd s n (dirs[3]!) ↔ ∃ w ∈ dirs, (t : Int) ∈ horseAdd s n w := by
      rw [dir_any]
      simp only [List.mem_append, List.not_mem_nil, false_or]
      constructor
      · rintro (((h | h) | h) | h)
        · exact ⟨0, by omega, h⟩
        · exact ⟨1, by omega, h⟩
        · exact ⟨2, by omega, h⟩
        · exact ⟨3, by omega, h⟩
      · rintro ⟨i, hi, h⟩
        match i, hi with
        | 0, _ => exact .inl (.inl (.inl h))
        | 1, _ => exact .inl (.inl (.inr h))
        | 2, _ => exact .inl (.inr h)
        | 3, _ => exact .inr h
    rw [hmem]
    unfold horseN
    rw [show ((away (n % 9) (t % 9) == 1 && away (n / 9) (t / 9) == 2) || (away (n % 9) (t % 9) == 2 && away (n / 9) (t / 9) == 1)) = horseP n t from rfl, Bool.and_eq_true, beq_iff_eq]
    constructor
    · rintro ⟨w, hw, hm⟩
      unfold horseAdd at hm
      split at hm
      · rename_i hc
        obtain ⟨h1, h2⟩ := hg.1 w hw hm
        refine ⟨h1, ?_⟩
        simp only [Bool.and_eq_true, beq_iff_eq] at hc
        rw [h2] at hc
        simpa using hc.2
      · cases hm
    · rintro ⟨h1, h2⟩
      obtain ⟨w, hw, hm⟩ := hg.2 h1
      obtain ⟨_, h3⟩ := hg.1 w hw hm
      have hr := horse_range ⟨n, hn⟩ w hw
      refine ⟨w, hw, ?_⟩
      unfold horseAdd
      rw [if_pos]
      · exact hm
      · have := hr.2.2
        simp only at this
        rw [h3] at this ⊢
        simp [h2]; omega
  · have key : ∀ w ∈ dirs, y ∈ horseAdd s n w → -1 ≤ y ∧ y < 90 := by
      intro w hw hm
      unfold horseAdd at hm
      split at hm
      · exact (horse_range ⟨n, hn⟩ w hw).1 y hm
      · cases hm
    simp only [List.mem_append, List.not_mem_nil, false_or] at hy
    rcases hy with ((h | h) | h) | h
    · exact key _ (dir_at 0).2.2 h
    · exact key _ (dir_at 1).2.2 h
    · exact key _ (dir_at 2).2.2 h
    · exact key _ (dir_at 3).2.2 h

/-! ### lines -/
def hd (l : List Nat) : Int := match l.head? with | some x => (x : Int) | none => -1
theorem hd_eq (l : List Nat) (t : Nat) : hd l = (t : Int) ↔ l.head? = some t := by
  unfold hd
  cases l.head? with
  | none => simp
  | some x => simp; omega
theorem line_two (k : Nat) (s : ByteArray) (n c w1 w2 f g i : Int) (acc : List Int) : reach_view_line.l0 (k + 1) w1 w2 acc f g 2 i s n c = some (acc, f, g) := by
  simp only [reach_view_line.l0]; rw [if_neg (by omega)]
/-- One look at the next square. -/
theorem line_next (s : ByteArray) (hs : s.size = 90) (n : Nat) (hn : n < 90) (c : Int) (w : Int × Int) (hw : w ∈ dirs) (j k : Nat) (hj : j < 10) (acc : List Int) (f g : Int) (p : Int) (hp : p < 2) :
    reach_view_line.l0 (k + 1) w.1 w.2 acc f g p ((j + 1 : Nat) : Int) s n c =
      (match (rayN n w)[j]? with
        | none => some (acc, f, g)
        | some t => if cel s t = 46 then (if p = 0 then (if acc.length < 17592186044416 then reach_view_line.l0 k w.1 w.2 (acc ++ [(t : Int)]) f g p ((j + 1 + 1 : Nat) : Int) s n c else none) else reach_view_line.l0 k w.1 w.2 acc f g p ((j + 1 + 1 : Nat) : Int) s n c)
          else (if p = 0 then reach_view_line.l0 k w.1 w.2 acc t g 1 ((j + 1 + 1 : Nat) : Int) s n c else reach_view_line.l0 k w.1 w.2 acc f t 2 ((j + 1 + 1 : Nat) : Int) s n c)) ∨ ((rayN n w)[j]? = none ∧ j ≠ (rayN n w).length) := by
  obtain ⟨b1, b2, b3, b4⟩ := dir_small w hw
  obtain ⟨g1, g2, g3⟩ := ray_geo ⟨n, hn⟩ w hw
  have hwr : wrap64 (((j + 1 : Nat) : Int) + 1) = ((j + 1 + 1 : Nat) : Int) := by rw [wrap_small _ (by omega) (by omega)]; omega
  have m1 : ((j + 1 : Nat) : Int) * w.1 = ((j : Nat) : Int) * w.1 + w.1 := by rw [Int.natCast_add, Int.add_mul]; simp
  have m2 : ((j + 1 : Nat) : Int) * w.2 = ((j : Nat) : Int) * w.2 + w.2 := by rw [Int.natCast_add, Int.add_mul]; simp
  have r1 : -20 ≤ ((j : Nat) : Int) * w.1 + w.1 ∧ ((j : Nat) : Int) * w.1 + w.1 ≤ 20 := by
    have : w.1 = -1 ∨ w.1 = 0 ∨ w.1 = 1 := by omega
    rcases this with h | h | h <;> rw [h] <;> omega
  have r2 : -20 ≤ ((j : Nat) : Int) * w.2 + w.2 ∧ ((j : Nat) : Int) * w.2 + w.2 ≤ 20 := by
    have : w.2 = -1 ∨ w.2 = 0 ∨ w.2 = 1 := by omega
    rcases this with h | h | h <;> rw [h] <;> omega
  by_cases hlen : (rayN n w)[j]? = none ∧ j ≠ (rayN n w).length
  · exact .inr hlen
  · left
    simp only [reach_view_line.l0]
    rw [if_pos hp, m1, m2, wrap_small _ (by omega) (by omega), wrap_small _ (by omega) (by omega), step_f s n c _ _ hn (by omega) (by omega), hwr]
    simp only [Option.bind_some]
    rw [is_f]
    simp only [Option.bind_some]
    cases hr : (rayN n w)[j]? with
    | none =>
      have hj' : j = (rayN n w).length := by
        by_cases h : j = (rayN n w).length
        · exact h
        · exact absurd ⟨hr, h⟩ hlen
      have := g1 ⟨j, hj⟩ hr hj'
      simp only at this
      rw [this, if_neg (by simp)]
    | some t =>
      obtain ⟨h1, h2⟩ := g3 ⟨j, hj⟩ t (by rw [hr]; rfl)
      simp only at h1
      rw [h1, if_pos (by simp; omega), if_pos (by omega), if_pos (by omega), bt_cel]
      simp only
      by_cases hc : cel s t = 46
      · rw [if_pos (by omega), if_pos hc]
      · rw [if_neg (by omega), if_neg hc]

def em (s : ByteArray) (x : Nat) : Bool := cel s x == 46
theorem drop_cons {α : Type} {R : List α} {j : Nat} {t : α} (h : R[j]? = some t) : R.drop j = t :: R.drop (j + 1) := by
  obtain ⟨hj, rfl⟩ := List.getElem?_eq_some_iff.1 h
  exact List.drop_eq_getElem_cons hj
theorem line_one (s : ByteArray) (hs : s.size = 90) (n : Nat) (hn : n < 90) (c : Int) (w : Int × Int) (hw : w ∈ dirs) (m : Nat) : ∀ (j k : Nat) (acc : List Int) (f : Int), j + m = (rayN n w).length → m + 2 ≤ k →
    reach_view_line.l0 k w.1 w.2 acc f (-1) 1 ((j + 1 : Nat) : Int) s n c = some (acc, f, hd (((rayN n w).drop j).dropWhile (em s))) := by
  have hlen : (rayN n w).length ≤ 9 := (ray_geo ⟨n, hn⟩ w hw).2.1
  induction m with
  | zero =>
    intro j k acc f hj hk
    obtain ⟨k, rfl⟩ : ∃ m, k = m + 1 := ⟨k - 1, by omega⟩
    have hnone : (rayN n w)[j]? = none := List.getElem?_eq_none (by omega)
    rcases line_next s hs n hn c w hw j k (by omega) acc f (-1) 1 (by omega) with h | h
    · rw [h, hnone]
      simp only
      rw [List.drop_eq_nil_of_le (by omega)]
      rfl
    · exact absurd (by omega) h.2
  | succ m ih =>
    intro j k acc f hj hk
    obtain ⟨k, rfl⟩ : ∃ m, k = m + 1 := ⟨k - 1, by omega⟩
    obtain ⟨t, ht⟩ : ∃ t, (rayN n w)[j]? = some t := ⟨_, List.getElem?_eq_getElem (by omega)⟩
    rcases line_next s hs n hn c w hw j k (by omega) acc f (-1) 1 (by omega) with h | h
    · rw [h, ht]
      simp only
      rw [drop_cons ht, List.dropWhile_cons]
      by_cases hc : cel s t = 46
      · rw [if_pos hc, if_neg (by omega), if_pos (by simp [em, hc]), ih (j + 1) k acc f (by omega) (by omega)]
      · rw [if_neg hc, if_neg (by omega), if_neg (by simp [em, hc])]
        obtain ⟨k, rfl⟩ : ∃ m, k = m + 1 := ⟨k - 1, by omega⟩
        rw [line_two]
        rfl
    · rw [ht] at h; cases h.1
theorem line_zero (s : ByteArray) (hs : s.size = 90) (n : Nat) (hn : n < 90) (c : Int) (w : Int × Int) (hw : w ∈ dirs) (m : Nat) : ∀ (j k : Nat) (acc : List Int), j + m = (rayN n w).length → m + 3 ≤ k → acc.length ≤ j →
    reach_view_line.l0 k w.1 w.2 acc (-1) (-1) 0 ((j + 1 : Nat) : Int) s n c = some (acc ++ ints (((rayN n w).drop j).takeWhile (em s)), hd (((rayN n w).drop j).dropWhile (em s)), hd ((((rayN n w).drop j).dropWhile (em s)).tail.dropWhile (em s))) := by
  have hlen : (rayN n w).length ≤ 9 := (ray_geo ⟨n, hn⟩ w hw).2.1
  induction m with
  | zero =>
    intro j k acc hj hk hacc
    obtain ⟨k, rfl⟩ : ∃ m, k = m + 1 := ⟨k - 1, by omega⟩
    have hnone : (rayN n w)[j]? = none := List.getElem?_eq_none (by omega)
    rcases line_next s hs n hn c w hw j k (by omega) acc (-1) (-1) 0 (by omega) with h | h
    · rw [h, hnone]
      simp only
      rw [List.drop_eq_nil_of_le (by omega)]
      simp [ints, hd]
    · exact absurd (by omega) h.2
  | succ m ih =>
    intro j k acc hj hk hacc
    obtain ⟨k, rfl⟩ : ∃ m, k = m + 1 := ⟨k - 1, by omega⟩
    obtain ⟨t, ht⟩ : ∃ t, (rayN n w)[j]? = some t := ⟨_, List.getElem?_eq_getElem (by omega)⟩
    rcases line_next s hs n hn c w hw j k (by omega) acc (-1) (-1) 0 (by omega) with h | h
    · rw [h, ht]
      simp only
      rw [drop_cons ht, List.dropWhile_cons, List.takeWhile_cons]
      by_cases hc : cel s t = 46
      · rw [if_pos hc, if_pos trivial, if_pos (by omega), if_pos (by simp [em, hc]), if_pos (by simp [em, hc]), ih (j + 1) k _ (by omega) (by omega) (by rw [List.length_append, List.length_singleton]; omega)]
        simp [ints]
      · rw [if_neg hc, if_pos trivial, if_neg (by simp [em, hc]), if_neg (by simp [em, hc]), List.tail_cons, line_one s hs n hn c w hw m (j + 1) k _ _ (by omega) (by omega)]
        simp [ints, hd]
    · rw [ht] at h; cases h.1
theorem line_f (s : ByteArray) (hs : s.size = 90) (n : Nat) (hn : n < 90) (c : Int) (w : Int × Int) (hw : w ∈ dirs) (k : Nat) (hk : 12 ≤ k) :
    reach_view_line.f k s n c w.1 w.2 = some (ints ((rayN n w).takeWhile (em s)), hd ((rayN n w).dropWhile (em s)), hd (((rayN n w).dropWhile (em s)).tail.dropWhile (em s))) := by
  have hlen : (rayN n w).length ≤ 9 := (ray_geo ⟨n, hn⟩ w hw).2.1
  unfold reach_view_line.f
  have := line_zero s hs n hn c w hw (rayN n w).length 0 k [] (by omega) (by omega) (by simp)
  rw [List.drop_zero] at this
  simpa using this

/-- What is gathered one way. -/
def lineAdd (s : ByteArray) (n : Nat) (b : Bool) (w : Int × Int) : List Int := ints ((rayN n w).takeWhile (em s)) ++ [if b = true then hd (((rayN n w).dropWhile (em s)).tail.dropWhile (em s)) else hd ((rayN n w).dropWhile (em s))]
theorem lineAdd_len (s : ByteArray) (n : Nat) (hn : n < 90) (b : Bool) (w : Int × Int) (hw : w ∈ dirs) : (lineAdd s n b w).length ≤ 10 := by
  have hlen : (rayN n w).length ≤ 9 := (ray_geo ⟨n, hn⟩ w hw).2.1
  have := (List.takeWhile_sublist (em s) (l := rayN n w)).length_le
  simp [lineAdd, ints]; omega
theorem lines_round (s : ByteArray) (hs : s.size = 90) (n : Nat) (hn : n < 90) (c : Int) (b : Bool) (i k : Nat) (hi : i < 4) (hk : 12 ≤ k) (acc : List Int) (hacc : acc.length ≤ 10 * i) :
    reach_view_lines.l0 (k + 1) b acc dirL 4 i s n c = reach_view_lines.l0 k b (acc ++ lineAdd s n b (dirs[i]!)) dirL 4 ((i + 1 : Nat) : Int) s n c := by
  obtain ⟨e0, e1, hm⟩ := dir_at ⟨i, hi⟩
  simp only at e0 e1 hm
  have hw : wrap64 ((i : Int) + 1) = ((i + 1 : Nat) : Int) := by rw [wrap_small _ (by omega) (by omega)]; omega
  simp only [reach_view_lines.l0]
  rw [if_pos (by omega), if_pos (by omega), if_pos (by simp; omega), e0, e1, hw]
  generalize dirs[i]! = w at *
  have hl := lineAdd_len s n hn b w hm
  rw [line_f s hs n hn c w hm k hk]
  simp only [Option.bind_some]
  unfold lineAdd at hl ⊢
  rw [List.length_append, List.length_singleton] at hl
  rw [if_pos (by omega)]
  cases b with
  | true =>
    rw [if_pos rfl, if_pos (by rw [List.length_append]; omega), if_pos rfl, List.append_assoc]
  | false =>
    rw [if_neg (by simp), if_pos (by rw [List.length_append]; omega), if_neg (by simp), List.append_assoc]
theorem lines_f (s : ByteArray) (hs : s.size = 90) (n : Nat) (hn : n < 90) (c : Int) (b : Bool) (k : Nat) (hk : 20 ≤ k) : ∃ l, reach_view_lines.f k s n c b = some l ∧ (∀ x, x ∈ l ↔ ∃ w ∈ dirs, x ∈ lineAdd s n b w) ∧ l.length ≤ 40 := by
  obtain ⟨k, rfl⟩ : ∃ m, k = m + 5 := ⟨k - 5, by omega⟩
  have l0 := lineAdd_len s n hn b (dirs[0]!) (dir_at 0).2.2
  have l1 := lineAdd_len s n hn b (dirs[1]!) (dir_at 1).2.2
  have l2 := lineAdd_len s n hn b (dirs[2]!) (dir_at 2).2.2
  have l3 := lineAdd_len s n hn b (dirs[3]!) (dir_at 3).2.2
  refine ⟨((([] ++ lineAdd s n b (dirs[0]!)) ++ lineAdd s n b (dirs[1]!)) ++ lineAdd s n b (dirs[2]!)) ++ lineAdd s n b (dirs[3]!), ?_, fun x => ?_, by simp only [List.length_append, List.length_nil]; omega⟩
  · unfold reach_view_lines.f
    simp only [Option.bind_some]
    have e4 : ((([(⟨1, 0⟩ : S81), (⟨(-1), 0⟩ : S81), (⟨0, 1⟩ : S81), (⟨0, (-1)⟩ : S81)] : List (S81)).length : Nat) : Int) = 4 := rfl
    rw [e4]
    have r0 := lines_round s hs n hn c b 0 (k + 4) (by omega) (by omega) [] (by simp)
    have r1 := lines_round s hs n hn c b 1 (k + 3) (by omega) (by omega) ([] ++ lineAdd s n b (dirs[0]!)) (by simp only [List.length_append, List.length_nil]; omega)
    have r2 := lines_round s hs n hn c b 2 (k + 2) (by omega) (by omega) (([] ++ lineAdd s n b (dirs[0]!)) ++ lineAdd s n b (dirs[1]!)) (by simp only [List.length_append, List.length_nil]; omega)
    have r3 := lines_round s hs n hn c b 3 (k + 1) (by omega) (by omega) ((([] ++ lineAdd s n b (dirs[0]!)) ++ lineAdd s n b (dirs[1]!)) ++ lineAdd s n b (dirs[2]!)) (by simp only [List.length_append, List.length_nil]; omega)
    refine r0.trans (r1.trans (r2.trans (r3.trans ?_)))
    simp only [reach_view_lines.l0]
    rw [if_neg (by omega)]
  · rw [dir_any]
    simp only [List.mem_append, List.not_mem_nil, false_or]
    constructor
    · rintro (((h | h) | h) | h)
      · exact ⟨0, by omega, h⟩
      · exact ⟨1, by omega, h⟩
      · exact ⟨2, by omega, h⟩
      · exact ⟨3, by omega, h⟩
    · rintro ⟨i, hi, h⟩
      match i, hi with
      | 0, _ => exact .inl (.inl (.inl h))
      | 1, _ => exact .inl (.inl (.inr h))
      | 2, _ => exact .inl (.inr h)
      | 3, _ => exact .inr h
theorem mem_lineAdd (s : ByteArray) (n : Nat) (b : Bool) (w : Int × Int) (t : Nat) : (t : Int) ∈ lineAdd s n b w ↔ t ∈ (rayN n w).takeWhile (em s) ∨ (if b = true then (((rayN n w).dropWhile (em s)).tail.dropWhile (em s)).head? = some t else ((rayN n w).dropWhile (em s)).head? = some t) := by
  unfold lineAdd ints
  rw [List.mem_append, List.mem_map, List.mem_singleton]
  have e : (∃ a ∈ (rayN n w).takeWhile (em s), ((a : Nat) : Int) = (t : Int)) ↔ t ∈ (rayN n w).takeWhile (em s) := by
    constructor
    · rintro ⟨a, h1, h2⟩
      have : a = t := by omega
      exact this ▸ h1
    · intro h; exact ⟨t, h, rfl⟩
  rw [e]
  cases b with
  | true => rw [if_pos rfl, if_pos rfl, eq_comm, hd_eq]
  | false => rw [if_neg (by simp), if_neg (by simp), eq_comm, hd_eq]
theorem lineAdd_range (s : ByteArray) (n : Nat) (hn : n < 90) (b : Bool) (w : Int × Int) (hw : w ∈ dirs) : ∀ y ∈ lineAdd s n b w, -1 ≤ y ∧ y < 90 := by
  obtain ⟨g1, g2, g3⟩ := ray_geo ⟨n, hn⟩ w hw
  have hall : ∀ t ∈ rayN n w, t < 90 := by
    intro t ht
    obtain ⟨j, hj, rfl⟩ := List.getElem_of_mem ht
    simp only at g2
    exact (g3 ⟨j, by omega⟩ _ (by simp only; rw [List.getElem?_eq_getElem hj]; rfl)).2
  have hhd : ∀ l : List Nat, (∀ t ∈ l, t < 90) → -1 ≤ hd l ∧ hd l < 90 := by
    intro l hl
    unfold hd
    cases l with
    | nil => simp
    | cons x l => have := hl x List.mem_cons_self; simp; omega
  have hsub : ∀ t ∈ (rayN n w).dropWhile (em s), t < 90 := fun t ht => hall t ((List.dropWhile_sublist _).mem ht)
  have hsub2 : ∀ t ∈ (((rayN n w).dropWhile (em s)).tail.dropWhile (em s)), t < 90 := fun t ht => hsub t (List.mem_of_mem_tail ((List.dropWhile_sublist _).mem ht))
  intro y hy
  unfold lineAdd ints at hy
  rw [List.mem_append, List.mem_map, List.mem_singleton] at hy
  rcases hy with ⟨t, ht, rfl⟩ | rfl
  · have := hall t ((List.takeWhile_sublist _).mem ht); omega
  · split
    · exact hhd _ hsub2
    · exact hhd _ hsub
theorem betw_count (s : ByteArray) (n t : Nat) (hn : n < 90) (ht : t < 90) (v : Nat) : betwN (cel s) n t = (v : Int) ↔ ∃ w ∈ dirs, ∃ j, (rayN n w)[j]? = some t ∧ ((rayN n w).take j).countP (fun x => !em s x) = v := by
  have hcnt : ∀ l l' : List Nat, (l = l' ∨ l = l'.reverse) → l.countP (fun i => cel s i != 46) = l'.countP (fun x => !em s x) := by
    intro l l' h
    have e : (fun i => cel s i != 46) = (fun x => !em s x) := by funext x; simp [em, bne]
    rw [e]
    rcases h with rfl | rfl
    · rfl
    · exact (List.reverse_perm l').countP_eq _
  unfold betwN
  constructor
  · intro h
    by_cases h1 : n = t
    · rw [if_pos h1] at h; omega
    rw [if_neg h1] at h
    by_cases h2 : n / 9 = t / 9 ∨ n % 9 = t % 9
    · rw [if_pos h2] at h
      obtain ⟨w, hw, j, hj, hl⟩ := betw_ray ⟨n, hn⟩ ⟨t, ht⟩ ⟨h1, h2⟩
      refine ⟨w, hw, j.1, hj, ?_⟩
      rw [← hcnt _ _ hl]
      simp only; omega
    · rw [if_neg h2] at h; omega
  · rintro ⟨w, hw, j, hj, hc⟩
    have hlen : (rayN n w).length ≤ 9 := (ray_geo ⟨n, hn⟩ w hw).2.1
    have hj9 : j < 9 := by have := (List.getElem?_eq_some_iff.1 hj).1; omega
    obtain ⟨h1, h2, hl⟩ : n ≠ t ∧ (n / 9 = t / 9 ∨ n % 9 = t % 9) ∧ (betwL n t = (rayN n w).take j ∨ betwL n t = ((rayN n w).take j).reverse) := ray_betw ⟨n, hn⟩ w hw ⟨j, hj9⟩ t (by simp only; rw [hj]; rfl)
    rw [if_neg h1, if_pos h2, hcnt _ _ hl]
    omega
theorem em_true (s : ByteArray) (t : Nat) : em s t = true ↔ cel s t = 46 := by simp [em]
theorem em_false (s : ByteArray) (t : Nat) : em s t = false ↔ ¬ cel s t = 46 := by simp [em]
theorem chariot_f (s : ByteArray) (hs : isBoard s = true) (n : Nat) (hn : n < 90) (hk : kindN (cel s n) = 82) (k : Nat) (h20 : 20 ≤ k) : ∃ l, reach_view_chariot.f k s n (cel s n : Nat) = some l ∧ WayOk (cel s) n l := by
  obtain ⟨l, h1, h2, h3⟩ := lines_f s (board_size hs) n hn (cel s n : Nat) false k h20
  refine ⟨l, ?_, fun t ht => ?_, fun y hy => ?_, by omega⟩
  · unfold reach_view_chariot.f; rw [h1]; rfl
  · rw [h2]
    unfold canN
    rw [if_neg (by omega), if_neg (by omega), if_neg (by omega), if_neg (by omega), if_pos hk, beq_iff_eq]
    rw [show (betwN (cel s) n t = 0) = (betwN (cel s) n t = ((0 : Nat) : Int)) from rfl, betw_count s n t hn ht]
    constructor
    · rintro ⟨w, hw, hm⟩
      rw [mem_lineAdd, if_neg (by simp), mem_free, mem_first] at hm
      rcases hm with ⟨j, a, b, _⟩ | ⟨j, a, b, _⟩ <;> exact ⟨w, hw, j, a, b⟩
    · rintro ⟨w, hw, j, a, b⟩
      refine ⟨w, hw, ?_⟩
      rw [mem_lineAdd, if_neg (by simp), mem_free, mem_first]
      cases he : em s t with
      | true => exact .inl ⟨j, a, b, rfl⟩
      | false => exact .inr ⟨j, a, b, rfl⟩
  · obtain ⟨w, hw, hm⟩ := (h2 y).1 hy
    exact lineAdd_range s n hn false w hw y hm
theorem cannon_f (s : ByteArray) (hs : isBoard s = true) (n : Nat) (hn : n < 90) (hk : kindN (cel s n) = 67) (k : Nat) (h20 : 20 ≤ k) : ∃ l, reach_view_cannon.f k s n (cel s n : Nat) = some l ∧ WayOk (cel s) n l := by
  obtain ⟨l, h1, h2, h3⟩ := lines_f s (board_size hs) n hn (cel s n : Nat) true k h20
  refine ⟨l, ?_, fun t ht => ?_, fun y hy => ?_, by omega⟩
  · unfold reach_view_cannon.f; rw [h1]; rfl
  · rw [h2]
    unfold canN
    rw [if_neg (by omega), if_neg (by omega), if_neg (by omega), if_neg (by omega), if_neg (by omega), if_pos hk, Bool.or_eq_true, Bool.and_eq_true, Bool.and_eq_true, beq_iff_eq, beq_iff_eq, beq_iff_eq, bne_iff_ne]
    rw [show (betwN (cel s) n t = 0) = (betwN (cel s) n t = ((0 : Nat) : Int)) from rfl, show (betwN (cel s) n t = 1) = (betwN (cel s) n t = ((1 : Nat) : Int)) from rfl, betw_count s n t hn ht, betw_count s n t hn ht]
    constructor
    · rintro ⟨w, hw, hm⟩
      rw [mem_lineAdd, if_pos rfl, mem_free, mem_second] at hm
      rcases hm with ⟨j, a, b, c⟩ | ⟨j, a, b, c⟩
      · exact .inl ⟨⟨w, hw, j, a, b⟩, (em_true s t).1 c⟩
      · exact .inr ⟨⟨w, hw, j, a, b⟩, (em_false s t).1 c⟩
    · rintro (⟨⟨w, hw, j, a, b⟩, c⟩ | ⟨⟨w, hw, j, a, b⟩, c⟩)
      · refine ⟨w, hw, ?_⟩
        rw [mem_lineAdd, if_pos rfl, mem_free, mem_second]
        exact .inl ⟨j, a, b, (em_true s t).2 c⟩
      · refine ⟨w, hw, ?_⟩
        rw [mem_lineAdd, if_pos rfl, mem_free, mem_second]
        exact .inr ⟨j, a, b, (em_false s t).2 c⟩
  · obtain ⟨w, hw, hm⟩ := (h2 y).1 hy
    exact lineAdd_range s n hn true w hw y hm

/-! ### all -/
theorem kinds (x : Nat) (hx : x < 256) (h : 0 ≤ sideN x) : kindN x = 75 ∨ kindN x = 65 ∨ kindN x = 66 ∨ kindN x = 78 ∨ kindN x = 82 ∨ kindN x = 67 ∨ kindN x = 80 := by
  have : ∀ x : Fin 256, 0 ≤ sideN x.1 → kindN x.1 = 75 ∨ kindN x.1 = 65 ∨ kindN x.1 = 66 ∨ kindN x.1 = 78 ∨ kindN x.1 = 82 ∨ kindN x.1 = 67 ∨ kindN x.1 = 80 := by decide +kernel
  exact this ⟨x, hx⟩ h
theorem kind_none (x : Nat) (hx : x < 256) (h : sideN x < 0) : kindN x = 0 := by
  have : ∀ x : Fin 256, sideN x.1 < 0 → kindN x.1 = 0 := by decide +kernel
  exact this ⟨x, hx⟩ h
theorem way_f (s : ByteArray) (hs : isBoard s = true) (n : Nat) (hn : n < 90) (hside : 0 ≤ sideN (cel s n)) : ∃ l, reach_view_way.f 40 s n (cel s n : Nat) = some l ∧ WayOk (cel s) n l := by
  have hc := cel_lt s n
  unfold reach_view_way.f
  rw [kind_f _ hc]
  simp only [Option.bind_some]
  rcases kinds _ hc hside with h | h | h | h | h | h | h
  · obtain ⟨l, h1, h2⟩ := general_f s hs n hn h
    exact ⟨l, by rw [if_pos (by omega), h1]; rfl, h2⟩
  · obtain ⟨l, h1, h2⟩ := advisor_f s hs n hn h
    exact ⟨l, by rw [if_neg (by omega), if_pos (by omega), h1]; rfl, h2⟩
  · obtain ⟨l, h1, h2⟩ := elephant_f s hs n hn h
    exact ⟨l, by rw [if_neg (by omega), if_neg (by omega), if_pos (by omega), h1]; rfl, h2⟩
  · obtain ⟨l, h1, h2⟩ := horse_f s hs n hn h 40 (by omega)
    exact ⟨l, by rw [if_neg (by omega), if_neg (by omega), if_neg (by omega), if_pos (by omega), h1]; rfl, h2⟩
  · obtain ⟨l, h1, h2⟩ := chariot_f s hs n hn h 40 (by omega)
    exact ⟨l, by rw [if_neg (by omega), if_neg (by omega), if_neg (by omega), if_neg (by omega), if_pos (by omega), h1]; rfl, h2⟩
  · obtain ⟨l, h1, h2⟩ := cannon_f s hs n hn h 40 (by omega)
    exact ⟨l, by rw [if_neg (by omega), if_neg (by omega), if_neg (by omega), if_neg (by omega), if_neg (by omega), if_pos (by omega), h1]; rfl, h2⟩
  · obtain ⟨l, h1, h2⟩ := pawn_f s hs n hn h
    have h1' : reach_view_pawn.f 40 s n (cel s n : Nat) = some l := at_rounds (reach_view_pawn.mono _ _ _) (by omega) h1
    exact ⟨l, by rw [if_neg (by omega), if_neg (by omega), if_neg (by omega), if_neg (by omega), if_neg (by omega), if_neg (by omega), if_pos (by omega), h1']; rfl, h2⟩
theorem at_f (s : ByteArray) (a : Int) : board_At.f s a = some (if isBoard s = true ∧ 0 ≤ a ∧ a < 90 then ((cel s a.toNat : Nat) : Int) else 46) := by
  unfold board_At.f board_Is.f
  rw [square_f]
  simp only [Option.bind_some]
  by_cases h : 0 ≤ a ∧ a < 90
  · rw [if_pos (by simpa using h)]
    cases hb : isBoard s with
    | true =>
      have := board_size hb
      rw [if_pos rfl, if_pos h.1, if_pos (by omega), if_pos (by refine ⟨?_, h⟩; trivial), ← bt_cel]
      congr 2; omega
    | false => rw [if_neg (by simp), if_neg (by simp)]
  · rw [if_neg (by simpa using h), if_neg (fun h2 => h h2.2)]
theorem all_f (s : ByteArray) (a : Int) : reach_All.f s a = some (ints (allS s a)) := by
  unfold reach_All.f
  rw [at_f]
  simp only [Option.bind_some]
  by_cases hin : isBoard s = true ∧ 0 ≤ a ∧ a < 90
  · rw [if_pos hin]
    obtain ⟨hb, h0, h9⟩ := hin
    have han : ((a.toNat : Nat) : Int) = a := by omega
    by_cases hside : 0 ≤ sideN (cel s a.toNat)
    · obtain ⟨l, h1, hok, hrange, hlen⟩ := way_f s hb a.toNat (by omega) hside
      rw [han] at h1
      rw [h1]
      simp only [Option.bind_some]
      have hcl : ∀ x : Int, all_cl s ((cel s a.toNat : Nat) : Int) x = some (if 0 ≤ x ∧ x < 90 then (sideN (cel s x.toNat) == sideN (cel s a.toNat)) else true) := by
        intro x
        unfold all_cl
        rw [is_f]
        simp only [Option.bind_some]
        by_cases hx : 0 ≤ x ∧ x < 90
        · have hz := board_size hb
          have hbx : bt s x = ((cel s x.toNat : Nat) : Int) := by rw [← bt_cel]; congr 1; omega
          rw [if_pos (by simpa using hx), if_pos hx.1, if_pos (by omega), hbx, side_f _ (cel_lt _ _), side_f _ (cel_lt _ _), if_pos hx]
          rfl
        · rw [if_neg (by simpa using hx), if_neg hx]
      obtain ⟨r, g1, g2, g3⟩ := optFilter_some (f := fun n => (all_cl s ((cel s a.toNat : Nat) : Int) n).map not) (l := l) (fun y _ => ⟨_, by rw [hcl]; rfl⟩)
      rw [g1]
      simp only [Option.bind_some]
      rw [if_pos (by omega)]
      congr 1
      unfold allS
      rw [if_pos ⟨hb, h0, h9⟩]
      unfold allN
      apply sort_compact
      · intro y hy
        have := ((g2 y).1 hy).2
        rw [hcl] at this
        by_cases hy2 : 0 ≤ y ∧ y < 90
        · exact hy2
        · rw [if_neg hy2] at this; cases this
      · intro t ht
        rw [g2, hok t ht, hcl, if_pos (by omega)]
        unfold fastN
        simp [hside]
        constructor
        · rintro ⟨x1, x2⟩; exact ⟨x2, x1⟩
        · rintro ⟨x1, x2⟩; exact ⟨x2, x1⟩
    · have hway : reach_view_way.f 40 s a ((cel s a.toNat : Nat) : Int) = some [] := by
        unfold reach_view_way.f
        rw [kind_f _ (cel_lt _ _), kind_none _ (cel_lt _ _) (by omega)]
        rfl
      rw [hway]
      simp only [Option.bind_some]
      have : optFilter (fun n => (all_cl s ((cel s a.toNat : Nat) : Int) n).map not) [] = some [] := rfl
      rw [this]
      simp only [Option.bind_some]
      rw [if_pos (by simp), List.mergeSort_nil]
      unfold allS
      rw [if_pos ⟨hb, h0, h9⟩]
      have hnil : allN (cel s) a.toNat = [] := by
        unfold allN
        rw [List.filter_eq_nil_iff]
        intro t _
        simp [fastN, hside]
      rw [hnil]
      rfl
  · rw [if_neg hin]
    have hway : reach_view_way.f 40 s a 46 = some [] := by
      unfold reach_view_way.f
      have := kind_f 46 (by omega)
      rw [show ((46 : Nat) : Int) = 46 from rfl] at this
      rw [this]
      rfl
    rw [hway]
    simp only [Option.bind_some]
    have : optFilter (fun n => (all_cl s 46 n).map not) [] = some [] := rfl
    rw [this]
    simp only [Option.bind_some]
    rw [if_pos (by simp), List.mergeSort_nil]
    unfold allS
    rw [if_neg hin]
    rfl
end Go.Proofs.Ytcanbidenhcohaa.P

/- Plain law: the program's Can and Between, and when two lists are one. -/
namespace Go.Proofs.Ytcanbidenhcohaa.P
open Go.RowKit Go.Lib Go.Proofs.YtcanbidenhcohaaW.PrintWords Go.Proofs.YtcanbidenhcohaaW.PrintLast Go.Proofs.YtcanbidenhcohaaW.PrintMore
open Sp
set_option linter.unusedVariables false
set_option linter.unusedSimpArgs false

theorem ints_l0 (a b : List Int) (hl : a.length = b.length) (hb : a.length ≤ 1000000) (m : Nat) : ∀ (i k : Nat), i + m = a.length → m < k → riverbankref01_Ints.l0 k a b i = some (decide (a.drop i = b.drop i)) := by
  induction m with
  | zero =>
    intro i k hi hk
    obtain ⟨k, rfl⟩ : ∃ m, k = m + 1 := ⟨k - 1, by omega⟩
    simp only [riverbankref01_Ints.l0]
    rw [if_neg (by omega), List.drop_eq_nil_of_le (by omega), List.drop_eq_nil_of_le (by omega)]
    simp
  | succ m ih =>
    intro i k hi hk
    obtain ⟨k, rfl⟩ : ∃ m, k = m + 1 := ⟨k - 1, by omega⟩
    have ha : i < a.length := by omega
    have hbb : i < b.length := by omega
    have hw : wrap64 ((i : Int) + 1) = ((i + 1 : Nat) : Int) := by rw [wrap_small _ (by omega) (by omega)]; omega
    have e1 : rd a (i : Int) = a[i] := by simp [rd, ha]
    have e2 : rd b (i : Int) = b[i] := by simp [rd, hbb]
    simp only [riverbankref01_Ints.l0]
    rw [if_pos (by omega), if_pos (by omega), if_pos (by omega), e1, e2, hw, List.drop_eq_getElem_cons ha, List.drop_eq_getElem_cons hbb]
    by_cases h : a[i] = b[i]
    · rw [if_pos h, ih (i + 1) k (by omega) (by omega)]
      simp only [h, List.cons.injEq, true_and]
    · rw [if_neg h]
      simp only [List.cons.injEq, h, false_and, decide_false]
theorem ints_f (a b : List Int) (hb : a.length ≤ 1000000) (k : Nat) (hk : a.length + 1 ≤ k) : riverbankref01_Ints.f k a b = some (decide (a = b)) := by
  unfold riverbankref01_Ints.f
  by_cases hl : a.length = b.length
  · rw [if_pos (by omega)]
    have := ints_l0 a b hl hb a.length 0 k (by omega) (by omega)
    simpa using this
  · rw [if_neg (by omega)]
    have : ¬ a = b := fun h => hl (by rw [h])
    simp [this]
theorem index_l0 (a : List Int) (x : Int) (hb : a.length ≤ 1000000) (m : Nat) : ∀ (i k : Nat), i + m = a.length → m < k → ∃ r, slices_Index_int_int.l0 k a x (a.length : Int) i = some r ∧ (0 ≤ r ↔ x ∈ a.drop i) := by
  induction m with
  | zero =>
    intro i k hi hk
    obtain ⟨k, rfl⟩ : ∃ m, k = m + 1 := ⟨k - 1, by omega⟩
    refine ⟨-1, ?_, ?_⟩
    · simp only [slices_Index_int_int.l0]
      rw [if_neg (by omega)]
    · rw [List.drop_eq_nil_of_le (by omega)]; simp
  | succ m ih =>
    intro i k hi hk
    obtain ⟨k, rfl⟩ : ∃ m, k = m + 1 := ⟨k - 1, by omega⟩
    have ha : i < a.length := by omega
    have hw : wrap64 ((i : Int) + 1) = ((i + 1 : Nat) : Int) := by rw [wrap_small _ (by omega) (by omega)]; omega
    have e1 : rd a (i : Int) = a[i] := by simp [rd, ha]
    simp only [slices_Index_int_int.l0]
    rw [if_pos (by omega), if_pos (by omega), if_pos (by omega), e1, hw, List.drop_eq_getElem_cons ha]
    by_cases h : x = a[i]
    · rw [if_pos h]
      exact ⟨_, rfl, ⟨fun _ => h ▸ List.mem_cons_self, fun _ => by omega⟩⟩
    · rw [if_neg h]
      obtain ⟨r, h1, h2⟩ := ih (i + 1) k (by omega) (by omega)
      refine ⟨r, h1, ?_⟩
      rw [h2, List.mem_cons]
      exact ⟨.inr, fun z => z.elim (fun e => absurd e h) id⟩
theorem contains_f (a : List Int) (x : Int) (hb : a.length ≤ 1000000) (k : Nat) (hk : a.length + 1 ≤ k) : slices_Contains_int_int.f k a x = some (decide (x ∈ a)) := by
  unfold slices_Contains_int_int.f slices_Index_int_int.f
  obtain ⟨r, h1, h2⟩ := index_l0 a x hb a.length 0 k (by omega) (by omega)
  rw [show ((0 : Nat) : Int) = 0 from rfl] at h1
  rw [h1]
  simp only [Option.bind_some]
  congr 1
  rw [decide_eq_decide]
  simpa using h2
theorem allS_len (s : ByteArray) (a : Int) : (ints (allS s a)).length ≤ 90 := by
  unfold ints allS
  rw [List.length_map]
  split
  · unfold allN; exact Nat.le_trans (List.length_filter_le _ _) (by simp)
  · simp
theorem mem_allS (s : ByteArray) (a b : Int) : b ∈ ints (allS s a) ↔ canS s a b = true := by
  unfold ints allS canS
  rw [List.mem_map]
  by_cases h : isBoard s = true ∧ 0 ≤ a ∧ a < 90
  · rw [if_pos h]
    obtain ⟨h0, h1, h2⟩ := h
    unfold allN
    constructor
    · rintro ⟨t, ht, rfl⟩
      obtain ⟨h3, h4⟩ := List.mem_filter.1 ht
      have := List.mem_range.1 h3
      simp [h0, h4]; omega
    · intro hc
      simp only [Bool.and_eq_true, decide_eq_true_eq] at hc
      obtain ⟨⟨_, _, _, h5, h6⟩, h7⟩ := hc
      exact ⟨b.toNat, List.mem_filter.2 ⟨List.mem_range.2 (by omega), h7⟩, by omega⟩
  · rw [if_neg h]
    constructor
    · rintro ⟨t, ht, _⟩; cases ht
    · intro hc
      simp only [Bool.and_eq_true, decide_eq_true_eq] at hc
      exact absurd ⟨hc.1.1, hc.1.2.1, hc.1.2.2.1⟩ h
theorem can_f (s : ByteArray) (a b : Int) (k : Nat) (hk : 100 ≤ k) : reach_Can.f k s a b = some (canS s a b) := by
  have hl := allS_len s a
  unfold reach_Can.f
  rw [all_f]
  simp only [Option.bind_some]
  rw [contains_f _ _ (by omega) k (by omega)]
  simp only [Option.bind_some]
  congr 1
  rw [Bool.eq_iff_iff, decide_eq_true_iff, mem_allS]

theorem pbetween_l0 (s : ByteArray) (hs : s.size = 90) (x1 x2 : Int) (step M : Nat) (hstep : step ≤ 9) (hM : M ≤ 89) (hmx : mx x1 x2 = (M : Int)) (rem : Nat) :
    ∀ (i n k : Nat), rem < k → n + rem < 1000 → endsS step M rem i = true →
    reach_Between.l0 k s x1 x2 step n i = some ((n + (walkS step rem i).countP (fun j => cel s j != 46) : Nat) : Int) := by
  induction rem with
  | zero =>
    intro i n k hk hn he
    obtain ⟨k, rfl⟩ : ∃ m, k = m + 1 := ⟨k - 1, by omega⟩
    have he' : M ≤ i := by simpa [endsS] using he
    simp only [reach_Between.l0]
    rw [if_neg (by omega)]
    simp [walkS]
  | succ rem ih =>
    intro i n k hk hn he
    obtain ⟨k, rfl⟩ : ∃ m, k = m + 1 := ⟨k - 1, by omega⟩
    simp only [endsS, Bool.and_eq_true, decide_eq_true_eq] at he
    obtain ⟨hlt, he⟩ := he
    have hw : wrap64 ((i : Int) + (step : Int)) = ((i + step : Nat) : Int) := by rw [wrap_small _ (by omega) (by omega)]; omega
    have hn1 : wrap64 ((n : Int) + 1) = ((n + 1 : Nat) : Int) := by rw [wrap_small _ (by omega) (by omega)]; omega
    have i1 := ih (i + step) n k (by omega) (by omega) he
    have i2 := ih (i + step) (n + 1) k (by omega) (by omega) he
    simp only [reach_Between.l0]
    rw [if_pos (by omega), if_pos (by omega), if_pos (by omega), bt_cel, walkS, List.countP_cons]
    by_cases hc : cel s i = 46
    · rw [if_pos (by omega), hw, i1]
      simp [hc]
    · rw [if_neg (by omega), hw, hn1, i2]
      simp [hc]
      omega
theorem pbetween_j0 (s : ByteArray) (hs : s.size = 90) (a b k : Nat) (ha : a < 90) (hb : b < 90) (hk : 100 ≤ k) : reach_Between.j0 k s (a : Int) (b : Int) ((a : Int) == (b : Int)) = some (betwN (cel s) a b) := by
  obtain ⟨k, rfl⟩ : ∃ m, k = m + 1 := ⟨k - 1, by omega⟩
  have hmn := mn_nat a b
  have hmx := mx_nat a b
  have hle : Nat.max a b ≤ 89 := by have : Nat.max a b = if a ≤ b then b else a := rfl; rw [this]; split <;> omega
  have hmin : Nat.min a b ≤ 89 := by have : Nat.min a b = if a ≤ b then a else b := rfl; rw [this]; split <;> omega
  have hw : ∀ m d : Nat, m ≤ 89 → d ≤ 9 → wrap64 ((m : Int) + (d : Int)) = ((m + d : Nat) : Int) := fun m d h1 h2 => by rw [wrap_small _ (by omega) (by omega)]; omega
  have hw1 : wrap64 (((Nat.min a b : Nat) : Int) + 1) = ((Nat.min a b + 1 : Nat) : Int) := hw _ 1 hmin (by omega)
  have hw9 : wrap64 (((Nat.min a b : Nat) : Int) + 9) = ((Nat.min a b + 9 : Nat) : Int) := hw _ 9 hmin (by omega)
  have haw : away a b ≤ 89 := by unfold away; split <;> omega
  have haw9 : away (a / 9) (b / 9) ≤ 89 := by unfold away; split <;> omega
  simp only [reach_Between.j0]
  unfold betwN
  by_cases hab : a = b
  · rw [if_pos (by simp [hab]), if_pos hab]
  · rw [if_neg (by simp; omega), if_neg hab, rank_f a ha, rank_f b hb, file_f a ha, file_f b hb]
    simp only [Option.bind_some]
    obtain ⟨g1, g9⟩ := betw_geo ⟨a, ha⟩ ⟨b, hb⟩ hab
    simp only at g1 g9
    obtain ⟨k, rfl⟩ : ∃ m, k = m + 1 := ⟨k - 1, by omega⟩
    by_cases h1 : a / 9 = b / 9
    · obtain ⟨e1, e2⟩ := g1 h1
      rw [if_pos (by omega), if_pos (.inl h1)]
      simp only [reach_Between.j1]
      rw [hmn, hw1]
      have := pbetween_l0 s hs a b 1 _ (by omega) hle hmx _ _ 0 k (by omega) (by omega) e2
      rw [e1] at this
      simpa using this
    · rw [if_neg (by omega)]
      by_cases h9 : a % 9 = b % 9
      · obtain ⟨e1, e2⟩ := g9 h1 h9
        rw [if_pos (by omega), if_pos (.inr h9)]
        simp only [reach_Between.j1]
        rw [hmn, hw9]
        have := pbetween_l0 s hs a b 9 _ (by omega) hle hmx _ _ 0 k (by omega) (by omega) e2
        rw [e1] at this
        simpa using this
      · rw [if_neg (by omega), if_neg (by rintro (h | h) <;> omega)]
theorem between_f (s : ByteArray) (a b : Int) (k : Nat) (hk : 200 ≤ k) : reach_Between.f k s a b = some (betwS s a b) := by
  obtain ⟨k', rfl⟩ : ∃ m, k = m + 1 := ⟨k - 1, by omega⟩
  have hj : reach_Between.j0 (k' + 1) s a b true = some (-1) := by simp only [reach_Between.j0]; rw [if_pos trivial]
  unfold reach_Between.f betwS board_Is.f
  simp only [Option.bind_some]
  rw [is_f, is_f]
  simp only [Option.bind_some]
  cases hs : isBoard s with
  | false => rw [if_neg (by simp), if_neg (by simp), hj]
  | true =>
    rw [if_pos rfl]
    by_cases h0 : 0 ≤ a ∧ a < 90
    · rw [if_pos (by simpa using h0)]
      by_cases h1 : 0 ≤ b ∧ b < 90
      · rw [if_pos (by simpa using h1), if_pos (by refine ⟨?_, h0.1, h0.2, h1⟩; trivial)]
        have := pbetween_j0 s (board_size hs) a.toNat b.toNat (k' + 1) (by omega) (by omega) (by omega)
        rw [show ((a.toNat : Nat) : Int) = a from by omega, show ((b.toNat : Nat) : Int) = b from by omega] at this
        exact this
      · rw [if_neg (by simpa using h1), if_neg (fun h => h1 h.2.2.2), hj]
    · rw [if_neg (by simpa using h0), if_neg (fun h => h0 ⟨h.2.1, h.2.2.1⟩), hj]
end Go.Proofs.Ytcanbidenhcohaa.P

/- The reach laws' live: some answers, each by its contract and the kernel's reckoning. -/
namespace Go.Proofs.Ytcanbidenhcohaa.P
open Go.RowKit Go.Lib Go.Proofs.YtcanbidenhcohaaW.PrintWords Go.Proofs.YtcanbidenhcohaaW.PrintLast Go.Proofs.YtcanbidenhcohaaW.PrintMore
open Sp
set_option linter.unusedVariables false
set_option linter.unusedSimpArgs false

abbrev startB : ByteArray := ⟨#[82, 78, 66, 65, 75, 65, 66, 78, 82, 46, 46, 46, 46, 46, 46, 46, 46, 46, 46, 67, 46, 46, 46, 46, 46, 67, 46, 80, 46, 80, 46, 80, 46, 80, 46, 80, 46, 46, 46, 46, 46, 46, 46, 46, 46, 46, 46, 46, 46, 46, 46, 46, 46, 46, 112, 46, 112, 46, 112, 46, 112, 46, 112, 46, 99, 46, 46, 46, 46, 46, 99, 46, 46, 46, 46, 46, 46, 46, 46, 46, 46, 114, 110, 98, 97, 107, 97, 98, 110, 114]⟩
theorem start_all : ints (allS startB 1) = [18, 20] ∧ ints (allS startB 19) = [10, 18, 20, 21, 22, 23, 24, 28, 37, 46, 55, 82] ∧ ints (allS startB 27) = [36] ∧ ints (allS startB 40) = [] := by decide +kernel
theorem start_can : canS startB 2 22 = true ∧ canS startB 2 12 = false ∧ betwS startB 19 82 = 1 ∧ betwS startB 0 10 = -1 ∧ betwS startB 0 8 = 7 := by decide +kernel
/-- A literal list of numbers, as a slice that is read. -/
theorem lit_reads (W : World) (xs : List Int) (hm : xs.length ≤ 9223372036854775807) : Kd.C (Kd.int .i64) (W.alloc (.cells (nums .i64 xs).toArray 3)) (some ⟨W.heap.size, 0, none⟩) xs.length xs := by
  have h := own_lit W W.heap.size 3 .i64 xs (Nat.le_refl _) hm
  exact (Kd.R_reads' (Kd.R_of_own (ok := fun _ => True) h (fun _ _ => trivial))).2.2

def riverbanklaw05_live.f : Option (Bool) := some true
set_option maxHeartbeats 2000000 in
set_option maxRecDepth 100000 in
theorem riverbanklaw05_live.calls (r : Bool) (w : World) (h : riverbanklaw05_live.f = some r) :
    Calls Try.prog 13 #[] w fun e w' => e = .returned (.bool r) ∧ Below w.heap.size w w' := by
  obtain rfl := Option.some.inj h
  clear h
  obtain ⟨s1, s2, s3, s4⟩ := start_all
  obtain ⟨s5, s6, s7, s8, s9⟩ := start_can
  have A1 := Aside0.mk ((all_f startB 1).trans (congrArg some s1))
  have A2 := Aside0.mk ((all_f startB 19).trans (congrArg some s2))
  have A3 := Aside0.mk ((all_f startB 27).trans (congrArg some s3))
  have A4 := Aside0.mk ((all_f startB 40).trans (congrArg some s4))
  have I1 := Aside0.mk (ints_f [18, 20] [18, 20] (by decide) 100 (by decide))
  have I2 := Aside0.mk (ints_f [10, 18, 20, 21, 22, 23, 24, 28, 37, 46, 55, 82] [10, 18, 20, 21, 22, 23, 24, 28, 37, 46, 55, 82] (by decide) 100 (by decide))
  have I3 := Aside0.mk (ints_f [36] [36] (by decide) 100 (by decide))
  have C5 := Aside0.mk ((can_f startB 2 22 100 (by decide)).trans (congrArg some s5))
  have C6 := Aside0.mk ((can_f startB 2 12 100 (by decide)).trans (congrArg some s6))
  have B7 := Aside0.mk ((between_f startB 19 82 200 (by decide)).trans (congrArg some s7))
  have B8 := Aside0.mk ((between_f startB 0 10 200 (by decide)).trans (congrArg some s8))
  have B9 := Aside0.mk ((between_f startB 0 8 200 (by decide)).trans (congrArg some s9))
  clear s1 s2 s3 s4 s5 s6 s7 s8 s9
  have HBx := Aside0.mk (Below.refl w.heap.size w)
  go_enter Try.func13, Try.ntmps13
  go_wp2_with fail
  refine (reach_All.calls _ 1 [18, 20] _ ?ha1).mono ?_
  case ha1 => exact A1.out
  rintro e w1 ⟨v1, rfl, hR1, hb1⟩
  obtain ⟨p1, c1, rfl, hl1, hC1⟩ := Kd.R_reads hR1
  have HB1 := Aside0.mk (below_then HBx.out (below_size HBx.out) hb1)
  have HC1 := Aside0.mk hC1
  clear hR1 hb1 hC1 HBx
  go_wp2_with fail
  refine (riverbankref01_Ints.calls 100 _ _ [18, 20] _ _ [18, 20] true _ ?hi1 ?hj1 ?hk1 ?hm1 I1.out).mono ?_
  case hi1 => exact Kd.C_alloc HC1.out _
  case hj1 => exact hl1
  case hk1 => exact lit_reads w1 [18, 20] (by decide)
  case hm1 => exact Nat.le_refl _
  rintro e w1' ⟨rfl, ⟨⟨q1, rfl⟩⟩⟩
  have HBx := Aside0.mk (pw_below_drewN (below_alloc HB1.out (.cells (nums .i64 [18, 20]).toArray 3)) q1)
  clear HB1 HC1 hl1
  go_wp2_with fail
  refine (reach_All.calls _ 19 [10, 18, 20, 21, 22, 23, 24, 28, 37, 46, 55, 82] _ ?ha2).mono ?_
  case ha2 => exact A2.out
  rintro e w2 ⟨v2, rfl, hR2, hb2⟩
  obtain ⟨p2, c2, rfl, hl2, hC2⟩ := Kd.R_reads hR2
  have HB2 := Aside0.mk (below_then HBx.out (below_size HBx.out) hb2)
  have HC2 := Aside0.mk hC2
  clear hR2 hb2 hC2 HBx
  go_wp2_with fail
  refine (riverbankref01_Ints.calls 100 _ _ [10, 18, 20, 21, 22, 23, 24, 28, 37, 46, 55, 82] _ _ [10, 18, 20, 21, 22, 23, 24, 28, 37, 46, 55, 82] true _ ?hi2 ?hj2 ?hk2 ?hm2 I2.out).mono ?_
  case hi2 => exact Kd.C_alloc HC2.out _
  case hj2 => exact hl2
  case hk2 => exact lit_reads w2 [10, 18, 20, 21, 22, 23, 24, 28, 37, 46, 55, 82] (by decide)
  case hm2 => exact Nat.le_refl _
  rintro e w2' ⟨rfl, ⟨⟨q2, rfl⟩⟩⟩
  have HBx := Aside0.mk (pw_below_drewN (below_alloc HB2.out (.cells (nums .i64 [10, 18, 20, 21, 22, 23, 24, 28, 37, 46, 55, 82]).toArray 3)) q2)
  clear HB2 HC2 hl2
  go_wp2_with fail
  refine (reach_All.calls _ 27 [36] _ ?ha3).mono ?_
  case ha3 => exact A3.out
  rintro e w3 ⟨v3, rfl, hR3, hb3⟩
  obtain ⟨p3, c3, rfl, hl3, hC3⟩ := Kd.R_reads hR3
  have HB3 := Aside0.mk (below_then HBx.out (below_size HBx.out) hb3)
  have HC3 := Aside0.mk hC3
  clear hR3 hb3 hC3 HBx
  go_wp2_with fail
  refine (riverbankref01_Ints.calls 100 _ _ [36] _ _ [36] true _ ?hi3 ?hj3 ?hk3 ?hm3 I3.out).mono ?_
  case hi3 => exact Kd.C_alloc HC3.out _
  case hj3 => exact hl3
  case hk3 => exact lit_reads w3 [36] (by decide)
  case hm3 => exact Nat.le_refl _
  rintro e w3' ⟨rfl, ⟨⟨q3, rfl⟩⟩⟩
  have HBx := Aside0.mk (pw_below_drewN (below_alloc HB3.out (.cells (nums .i64 [36]).toArray 3)) q3)
  clear HB3 HC3 hl3
  go_wp2_with fail
  refine (reach_All.calls _ 40 [] _ ?ha4).mono ?_
  case ha4 => exact A4.out
  rintro e w4 ⟨v4, rfl, hR4, hb4⟩
  obtain ⟨p4, c4, rfl, hl4, hC4⟩ := Kd.R_reads hR4
  have HB4 := Aside0.mk (below_then HBx.out (below_size HBx.out) hb4)
  have HC4 := Aside0.mk hC4
  clear hR4 hb4 hC4 HBx
  have HBx := HB4
  clear HB4 HC4 hl4
  go_wp2_with fail
  refine (reach_Can.calls 100 _ 2 22 true _ ?hc5).mono ?_
  case hc5 => exact C5.out
  rintro e w5 ⟨rfl, hb5⟩
  have HBy := Aside0.mk (below_then HBx.out (below_size HBx.out) hb5)
  clear hb5 HBx
  have HBx := HBy
  clear HBy
  go_wp2_with fail
  refine (reach_Can.calls 100 _ 2 12 false _ ?hc6).mono ?_
  case hc6 => exact C6.out
  rintro e w6 ⟨rfl, hb6⟩
  have HBy := Aside0.mk (below_then HBx.out (below_size HBx.out) hb6)
  clear hb6 HBx
  have HBx := HBy
  clear HBy
  go_wp2_with fail
  refine (reach_Between.calls 200 _ 19 82 1 _ ?hc7).mono ?_
  case hc7 => exact B7.out
  rintro e w7 ⟨rfl, hb7⟩
  have HBy := Aside0.mk (below_then HBx.out (below_size HBx.out) hb7)
  clear hb7 HBx
  have HBx := HBy
  clear HBy
  go_wp2_with fail
  refine (reach_Between.calls 200 _ 0 10 (-1) _ ?hc8).mono ?_
  case hc8 => exact B8.out
  rintro e w8 ⟨rfl, hb8⟩
  have HBy := Aside0.mk (below_then HBx.out (below_size HBx.out) hb8)
  clear hb8 HBx
  have HBx := HBy
  clear HBy
  go_wp2_with fail
  refine (reach_Between.calls 200 _ 0 8 7 _ ?hc9).mono ?_
  case hc9 => exact B9.out
  rintro e w9 ⟨rfl, hb9⟩
  have HBy := Aside0.mk (below_then HBx.out (below_size HBx.out) hb9)
  clear hb9 HBx
  have HBx := HBy
  clear HBy
  go_wp2
  go_ret
  exact ⟨rfl, HBx.out⟩
end Go.Proofs.Ytcanbidenhcohaa.P
