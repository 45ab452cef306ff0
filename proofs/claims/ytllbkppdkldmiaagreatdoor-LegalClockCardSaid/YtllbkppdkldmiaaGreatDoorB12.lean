/- Walks and plain laws that several statements lean on, joined: no statement of the seat is proved here. -/
import Derived.Test.YtllbkppdkldmiaaGreatDoorB1
import Derived.Test.YtllbkppdkldmiaaGreatDoorB6
import Derived.Test.YtllbkppdkldmiaaGreatDoorB5
import Derived.Test.YtllbkppdkldmiaaGreatDoorB10
import Derived.Test.YtllbkppdkldmiaaGreatDoorB8

/- Plain law: seen from the other side a piece reaches the same. -/
namespace Go.Proofs.YtllbkppdkldmiaaGreatDoor.Sp

theorem sideV (x : Nat) : sideN x = -1 ∨ sideN x = 0 ∨ sideN x = 1 := by
  unfold sideN
  cases isRed x with
  | true => simp
  | false => cases isBlack x <;> simp
/-- A piece of the other side. -/
def swapN (x : Nat) : Nat := if isRed x then x + 32 else if isBlack x then x - 32 else x
/-- A board from the other side. -/
def turnC (c : Nat → Nat) (n : Nat) : Nat := swapN (c (89 - n))

theorem swap_facts : ∀ x ∈ letters, swapN x ∈ letters ∧ (swapN x = 46 ↔ x = 46) ∧ kindN (swapN x) = kindN x ∧ sideN (swapN x) = (if sideN x = -1 then -1 else 1 - sideN x) ∧ swapN (swapN x) = x := by decide
theorem may_turn : ∀ x ∈ letters, ∀ n : Fin 90, mayN (swapN x) (89 - n.1) = mayN x n.1 := by decide +kernel
theorem away_turn : ∀ a b : Fin 90, away ((89 - a.1) % 9) ((89 - b.1) % 9) = away (a.1 % 9) (b.1 % 9) ∧ away ((89 - a.1) / 9) ((89 - b.1) / 9) = away (a.1 / 9) (b.1 / 9) ∧ ((89 - a.1) / 9 = (89 - b.1) / 9 ↔ a.1 / 9 = b.1 / 9) ∧ ((89 - a.1) % 9 = (89 - b.1) % 9 ↔ a.1 % 9 = b.1 % 9) := by decide +kernel
theorem betwL_turn : ∀ a b : Fin 90, betwL (89 - a.1) (89 - b.1) = ((betwL a.1 b.1).map (fun i => 89 - i)).reverse ∧ (∀ i ∈ betwL a.1 b.1, i < 90) := by decide +kernel
theorem betwL_sym : ∀ a b : Fin 90, betwL a.1 b.1 = betwL b.1 a.1 := by decide +kernel
theorem leg_turn : ∀ a b : Fin 90, ((away (a.1 % 9) (b.1 % 9) == 1 && away (a.1 / 9) (b.1 / 9) == 2) || (away (a.1 % 9) (b.1 % 9) == 2 && away (a.1 / 9) (b.1 / 9) == 1)) = true → legN (89 - a.1) (89 - b.1) = 89 - legN a.1 b.1 ∧ legN a.1 b.1 < 90 := by decide +kernel
theorem mid_turn : ∀ a b : Fin 90, away (a.1 % 9) (b.1 % 9) = 2 → away (a.1 / 9) (b.1 / 9) = 2 → ((89 - a.1) + (89 - b.1)) / 2 = 89 - (a.1 + b.1) / 2 ∧ (a.1 + b.1) / 2 < 90 := by decide +kernel
theorem pawn_turn : ∀ s : Fin 2, ∀ a b : Fin 90, pawnN (1 - ((s.1 : Nat) : Int)) (89 - a.1) (89 - b.1) = pawnN ((s.1 : Nat) : Int) a.1 b.1 := by decide +kernel

theorem turnC_at (c : Nat → Nat) {n : Nat} (hn : n < 90) : turnC c (89 - n) = swapN (c n) := by
  unfold turnC
  congr 2
  omega
section
variable {c : Nat → Nat} (hc : ∀ n, n < 90 → c n ∈ letters)
include hc
theorem turnC_letters {n : Nat} (hn : n < 90) : turnC c n ∈ letters := by
  unfold turnC
  exact (swap_facts _ (hc _ (by omega))).1
theorem turnC_empty {n : Nat} (hn : n < 90) : (turnC c (89 - n) == 46) = (c n == 46) := by
  rw [turnC_at c hn, Bool.eq_iff_iff, beq_iff_eq, beq_iff_eq]
  exact (swap_facts _ (hc n hn)).2.1
theorem betw_turn {a b : Nat} (ha : a < 90) (hb : b < 90) : betwN (turnC c) (89 - a) (89 - b) = betwN c a b := by
  obtain ⟨_, _, h3, h4⟩ := away_turn ⟨a, ha⟩ ⟨b, hb⟩
  obtain ⟨h5, h6⟩ := betwL_turn ⟨a, ha⟩ ⟨b, hb⟩
  simp only at h3 h4 h5 h6
  unfold betwN
  rw [h5]
  have he : (89 - a = 89 - b) ↔ a = b := by omega
  by_cases hab : a = b
  · rw [if_pos hab, if_pos (he.2 hab)]
  rw [if_neg hab, if_neg (fun h => hab (he.1 h))]
  by_cases hline : a / 9 = b / 9 ∨ a % 9 = b % 9
  · rw [if_pos hline, if_pos (hline.imp h3.2 h4.2)]
    rw [List.countP_reverse, List.countP_map]
    congr 1
    apply List.countP_congr
    intro i hi
    simp only [Function.comp]
    have := turnC_empty hc (h6 i hi)
    rw [bne, this, bne]
  · rw [if_neg hline, if_neg (fun h => hline (h.imp h3.1 h4.1))]
omit hc in
theorem betw_sym (c : Nat → Nat) {a b : Nat} (ha : a < 90) (hb : b < 90) : betwN c a b = betwN c b a := by
  unfold betwN
  rw [betwL_sym ⟨a, ha⟩ ⟨b, hb⟩]
  by_cases hab : a = b
  · rw [if_pos hab, if_pos hab.symm]
  · rw [if_neg hab, if_neg (fun h : b = a => hab h.symm)]
    by_cases hline : a / 9 = b / 9 ∨ a % 9 = b % 9
    · rw [if_pos hline, if_pos (hline.imp Eq.symm Eq.symm)]
    · rw [if_neg hline, if_neg (fun h => hline (h.imp Eq.symm Eq.symm))]
theorem can_turn {a b : Nat} (ha : a < 90) (hb : b < 90) (hs : 0 ≤ sideN (c a)) : canN (turnC c) (89 - a) (89 - b) = canN c a b := by
  obtain ⟨f1, f2, f3, f4, f5⟩ := swap_facts _ (hc a ha)
  obtain ⟨w1, w2, _, _⟩ := away_turn ⟨a, ha⟩ ⟨b, hb⟩
  have hm := may_turn _ (hc a ha) ⟨b, hb⟩
  have hl := leg_turn ⟨a, ha⟩ ⟨b, hb⟩
  have hmid := mid_turn ⟨a, ha⟩ ⟨b, hb⟩
  simp only at w1 w2 hm hl hmid
  unfold canN horseN
  rw [turnC_at c ha, f3, w1, w2, hm, betw_turn hc ha hb, turnC_empty hc hb]
  have hbn : (turnC c (89 - b) != 46) = (c b != 46) := by rw [bne, turnC_empty hc hb, bne]
  rw [hbn]
  by_cases k1 : kindN (c a) = 75
  · rw [if_pos k1, if_pos k1]
  rw [if_neg k1, if_neg k1]
  by_cases k2 : kindN (c a) = 65
  · rw [if_pos k2, if_pos k2]
  rw [if_neg k2, if_neg k2]
  by_cases k3 : kindN (c a) = 66
  · rw [if_pos k3, if_pos k3]
    by_cases e1 : away (a % 9) (b % 9) = 2
    · by_cases e2 : away (a / 9) (b / 9) = 2
      · obtain ⟨m1, m2⟩ := hmid e1 e2
        rw [m1, turnC_empty hc m2]
      · rw [show (away (a / 9) (b / 9) == 2) = false from beq_eq_false_iff_ne.2 e2]; simp
    · rw [show (away (a % 9) (b % 9) == 2) = false from beq_eq_false_iff_ne.2 e1]; simp
  rw [if_neg k3, if_neg k3]
  by_cases k4 : kindN (c a) = 78
  · rw [if_pos k4, if_pos k4]
    cases hp : ((away (a % 9) (b % 9) == 1 && away (a / 9) (b / 9) == 2) || (away (a % 9) (b % 9) == 2 && away (a / 9) (b / 9) == 1)) with
    | false => simp
    | true =>
      obtain ⟨m1, m2⟩ := hl hp
      rw [m1, turnC_empty hc m2]
  rw [if_neg k4, if_neg k4]
  by_cases k5 : kindN (c a) = 82
  · rw [if_pos k5, if_pos k5]
  rw [if_neg k5, if_neg k5]
  by_cases k6 : kindN (c a) = 67
  · rw [if_pos k6, if_pos k6]
  rw [if_neg k6, if_neg k6, f4]
  have hside : sideN (c a) = 0 ∨ sideN (c a) = 1 := by
    have := sideV (c a)
    omega
  rw [if_neg (by omega)]
  rcases hside with h | h <;> rw [h]
  · exact pawn_turn 0 ⟨a, ha⟩ ⟨b, hb⟩
  · exact pawn_turn 1 ⟨a, ha⟩ ⟨b, hb⟩
theorem fast_turn {a b : Nat} (ha : a < 90) (hb : b < 90) : fastN (turnC c) (89 - a) (89 - b) = fastN c a b := by
  obtain ⟨_, _, _, fa, _⟩ := swap_facts _ (hc a ha)
  obtain ⟨_, _, _, fb, _⟩ := swap_facts _ (hc b hb)
  have sa := sideV (c a)
  have sb := sideV (c b)
  unfold fastN
  by_cases h : 0 ≤ sideN (c a)
  · rw [can_turn hc ha hb h, turnC_at c ha, turnC_at c hb, fa, fb]
    rcases sa with sa | sa | sa <;> rcases sb with sb | sb | sb <;> rw [sa, sb] <;> simp <;> omega
  · rw [turnC_at c ha, fa, if_pos (by omega)]
    simp [h]
end
end Go.Proofs.YtllbkppdkldmiaaGreatDoor.Sp

/- Plain law: a board with one square changed: what stands between, going back, and the pawn's few squares. -/
namespace Go.Proofs.YtllbkppdkldmiaaGreatDoor.Sp

theorem fast_congr {c d : Nat → Nat} (h : ∀ n, n < 90 → c n = d n) {a b : Nat} (ha : a < 90) (hb : b < 90) (hl : ∀ n, n < 90 → c n ∈ letters) : fastN c a b = fastN d a b := by
  have e1 := h a ha
  have e2 := h b hb
  have hbt : betwN c a b = betwN d a b := by
    unfold betwN
    have : ∀ i ∈ betwL a b, i < 90 := (betwL_turn ⟨a, ha⟩ ⟨b, hb⟩).2
    rw [List.countP_congr (p := fun i => c i != 46) (q := fun i => d i != 46) (fun i hi => by rw [h i (this i hi)])]
  have hleg := leg_turn ⟨a, ha⟩ ⟨b, hb⟩
  have hmid := mid_turn ⟨a, ha⟩ ⟨b, hb⟩
  simp only at hleg hmid
  unfold fastN canN horseN
  rw [hbt, e1, e2]
  congr 1
  cases hp : ((away (a % 9) (b % 9) == 1 && away (a / 9) (b / 9) == 2) || (away (a % 9) (b % 9) == 2 && away (a / 9) (b / 9) == 1)) with
  | true =>
    rw [h _ (hleg hp).2]
    by_cases q1 : away (a % 9) (b % 9) = 2
    · by_cases q2 : away (a / 9) (b / 9) = 2
      · rw [h _ (hmid q1 q2).2]
      · rw [show (away (a / 9) (b / 9) == 2) = false from beq_eq_false_iff_ne.2 q2]; simp
    · rw [show (away (a % 9) (b % 9) == 2) = false from beq_eq_false_iff_ne.2 q1]; simp
  | false =>
    simp only [Bool.false_and]
    by_cases q1 : away (a % 9) (b % 9) = 2
    · by_cases q2 : away (a / 9) (b / 9) = 2
      · rw [h _ (hmid q1 q2).2]
      · rw [show (away (a / 9) (b / 9) == 2) = false from beq_eq_false_iff_ne.2 q2]; simp
    · rw [show (away (a % 9) (b % 9) == 2) = false from beq_eq_false_iff_ne.2 q1]; simp
theorem betw_congr {c d : Nat → Nat} (h : ∀ n, n < 90 → c n = d n) {a b : Nat} (ha : a < 90) (hb : b < 90) : betwN c a b = betwN d a b := by
  unfold betwN
  have : ∀ i ∈ betwL a b, i < 90 := (betwL_turn ⟨a, ha⟩ ⟨b, hb⟩).2
  rw [List.countP_congr (p := fun i => c i != 46) (q := fun i => d i != 46) (fun i hi => by rw [h i (this i hi)])]
theorem betwL_in : ∀ a b : Fin 90, ∀ i ∈ betwL a.1 b.1, i ≠ a.1 ∧ i ≠ b.1 ∧ i < 90 := by decide +kernel
theorem betw_line : ∀ a b : Nat, ∀ c : Nat → Nat, 0 ≤ betwN c a b → a ≠ b := by
  intro a b c h e
  rw [betwN, if_pos e] at h
  omega
theorem mid_in : ∀ a b : Fin 90, away (a.1 % 9) (b.1 % 9) = 2 → away (a.1 / 9) (b.1 / 9) = 2 → (a.1 + b.1) / 2 ≠ a.1 ∧ (a.1 + b.1) / 2 ≠ b.1 ∧ (a.1 + b.1) / 2 < 90 := by decide +kernel
theorem away_sym (a b : Nat) : away a b = away b a := by unfold away; split <;> split <;> omega
/-- A board with x on n. -/
def putC (c : Nat → Nat) (n x : Nat) : Nat → Nat := fun i => if i = n then x else c i
theorem putC_at (c : Nat → Nat) (n x : Nat) : putC c n x n = x := if_pos rfl
theorem putC_ne (c : Nat → Nat) (n x : Nat) {i : Nat} (h : i ≠ n) : putC c n x i = c i := if_neg h
theorem putC_letters {c : Nat → Nat} {n x : Nat} (hc : ∀ i, i < 90 → c i ∈ letters) (hx : x ∈ letters) : ∀ i, i < 90 → putC c n x i ∈ letters := by
  intro i hi
  unfold putC
  split
  · exact hx
  · exact hc i hi
theorem betw_inner {c d : Nat → Nat} {a b : Nat} (ha : a < 90) (hb : b < 90) (h : ∀ n, n ≠ a → n ≠ b → c n = d n) : betwN c a b = betwN d a b := by
  unfold betwN
  rw [List.countP_congr (p := fun i => c i != 46) (q := fun i => d i != 46) (fun i hi => by
    obtain ⟨h1, h2, _⟩ := betwL_in ⟨a, ha⟩ ⟨b, hb⟩ i hi
    rw [h i h1 h2])]
theorem fast_back {c : Nat → Nat} {a b : Nat} (ha : a < 90) (hb : b < 90) (h : fastN c a b = true) (hk : kindN (c a) ≠ 78 ∧ kindN (c a) ≠ 80) (hk7 : ∀ x ∈ letters, 0 ≤ sideN x → kindN x ∈ [75, 65, 66, 78, 82, 67, 80]) (hl : c a ∈ letters) (h67 : kindN (c a) = 67 → c b = 46)
    (hm : mayN (c a) a = true) : fastN (putC (putC c a 46) b (c a)) b a = true := by
  unfold fastN at h
  simp only [Bool.and_eq_true, decide_eq_true_eq, bne_iff_ne, ne_eq] at h
  obtain ⟨⟨h1, h2⟩, h3⟩ := h
  have hab : a ≠ b := fun e => h2 (by rw [e])
  have hk' := hk7 _ hl h1
  unfold fastN
  have eb : putC (putC c a 46) b (c a) b = c a := putC_at _ _ _
  have ea : putC (putC c a 46) b (c a) a = 46 := by rw [putC_ne _ _ _ hab, putC_at]
  have hbet : betwN (putC (putC c a 46) b (c a)) b a = betwN c a b := by
    rw [betw_sym _ hb ha]
    exact betw_inner ha hb (fun n n1 n2 => by rw [putC_ne _ _ _ n2, putC_ne _ _ _ n1])
  rw [eb, ea, decide_eq_true h1, show (sideN 46 != sideN (c a)) = true from by rw [show sideN 46 = -1 from rfl, bne_iff_ne]; omega]
  simp only [Bool.true_and]
  unfold canN at h3 ⊢
  rw [eb, hbet, ea]
  rw [away_sym (b % 9), away_sym (b / 9)]
  obtain ⟨k1, k2⟩ := hk
  by_cases q75 : kindN (c a) = 75
  · rw [if_pos q75] at h3 ⊢
    simp only [Bool.and_eq_true] at h3 ⊢
    exact ⟨h3.1, hm⟩
  rw [if_neg q75] at h3 ⊢
  by_cases q65 : kindN (c a) = 65
  · rw [if_pos q65] at h3 ⊢
    simp only [Bool.and_eq_true] at h3 ⊢
    exact ⟨h3.1, hm⟩
  rw [if_neg q65] at h3 ⊢
  by_cases q66 : kindN (c a) = 66
  · rw [if_pos q66] at h3 ⊢
    simp only [Bool.and_eq_true, beq_iff_eq] at h3 ⊢
    obtain ⟨⟨⟨g1, g2⟩, g3⟩, g4⟩ := h3
    obtain ⟨m1, m2, _⟩ := mid_in ⟨a, ha⟩ ⟨b, hb⟩ g1 g2
    simp only at m1 m2
    refine ⟨⟨⟨g1, g2⟩, hm⟩, ?_⟩
    rw [show (b + a) / 2 = (a + b) / 2 from by rw [Nat.add_comm], putC_ne _ _ _ m2, putC_ne _ _ _ m1]
    exact g4
  rw [if_neg q66, if_neg k1] at h3 ⊢
  by_cases q82 : kindN (c a) = 82
  · rw [if_pos q82] at h3 ⊢
    exact h3
  rw [if_neg q82] at h3 ⊢
  have q67 : kindN (c a) = 67 := by
    simp only [List.mem_cons, List.not_mem_nil, or_false] at hk'
    omega
  rw [if_pos q67] at h3 ⊢
  have := h67 q67
  simp [this] at h3
  simp [h3]
theorem kinds7 : ∀ x ∈ letters, 0 ≤ sideN x → kindN x ∈ [75, 65, 66, 78, 82, 67, 80] := by decide
theorem letter_side : ∀ x ∈ letters, (x = 46 ∧ sideN x = -1) ∨ (x ≠ 46 ∧ sideN x = 0) ∨ (x ≠ 46 ∧ sideN x = 1) := by decide
/-- A red chariot, a red cannon on a. -/
theorem fast_chariot (c : Nat → Nat) {a b : Nat} (ha : a < 90) (hb : b < 90) (hl : c b ∈ letters) (hab : a ≠ b) : fastN (putC c a 82) a b = (sideN (c b) != 0 && betwN c a b == 0) := by
  unfold fastN canN
  rw [putC_at, putC_ne _ _ _ (Ne.symm hab), betw_inner (d := c) ha hb (fun n n1 n2 => putC_ne _ _ _ n1)]
  rfl
theorem fast_cannon (c : Nat → Nat) {a b : Nat} (ha : a < 90) (hb : b < 90) (hl : c b ∈ letters) (hab : a ≠ b) : fastN (putC c a 67) a b = (sideN (c b) != 0 && ((betwN c a b == 0 && c b == 46) || (betwN c a b == 1 && c b != 46))) := by
  unfold fastN canN
  rw [putC_at, putC_ne _ _ _ (Ne.symm hab), betw_inner (d := c) ha hb (fun n n1 n2 => putC_ne _ _ _ n1)]
  rfl
theorem pawn_few : ∀ s : Fin 2, ∀ a : Fin 90, ((List.range 90).filter (pawnN ((s.1 : Nat) : Int) a.1)).length ≤ 3 := by decide +kernel
theorem pawn_ahead : ∀ s : Fin 2, ∀ a b : Fin 90, pawnN ((s.1 : Nat) : Int) a.1 b.1 = true → (if s.1 = 1 then b.1 / 9 + 1 = a.1 / 9 ∧ b.1 % 9 = a.1 % 9 else b.1 / 9 = a.1 / 9 + 1 ∧ b.1 % 9 = a.1 % 9) ∨ (b.1 / 9 = a.1 / 9 ∧ overN a.1 ((s.1 : Nat) : Int) = true) := by decide +kernel
end Go.Proofs.YtllbkppdkldmiaaGreatDoor.Sp

/- Plain law: texts of bytes; a board, a position from the other side. -/
namespace Go.Proofs.YtllbkppdkldmiaaGreatDoor.K
open Go.RowKit Go.Lib Go.Proofs.YtllbkppdkldmiaaGreatDoorW.PrintWords Go.Proofs.YtllbkppdkldmiaaGreatDoor.Sp
set_option linter.unusedVariables false
set_option linter.unusedSimpArgs false
/-- A text of bytes. -/
def strB (l : List Nat) : ByteArray := ⟨(l.map UInt8.ofNat).toArray⟩
theorem strB_size (l : List Nat) : (strB l).size = l.length := by simp [strB, ByteArray.size]
theorem cel_strB (l : List Nat) (n : Nat) (hn : n < l.length) (hl : ∀ x ∈ l, x < 256) : cel (strB l) n = l[n] := by
  have h : n < (strB l).size := by rw [strB_size]; exact hn
  rw [← cel_get _ n h]
  have e : (strB l)[n]'h = UInt8.ofNat (l[n]) := by
    show ((l.map UInt8.ofNat).toArray)[n]'(by simpa using hn) = _
    simp
  rw [e]
  have := hl _ (List.getElem_mem hn)
  simp [Nat.mod_eq_of_lt this]
theorem strB_snoc (l : List Nat) (x : Nat) : strB l ++ strOfNums [(x : Int)] = strB (l ++ [x]) := by
  apply ByteArray.ext
  rw [ByteArray.data_append]
  simp [strB, strOfNums]
theorem letter_lt : ∀ x ∈ letters, x < 256 := by decide
theorem isBoard_strB (l : List Nat) (hl : l.length = 90) (h : ∀ x ∈ l, x ∈ letters) : isBoard (strB l) = true := by
  have hcb : ∀ x ∈ letters, cellB x = true := by decide
  refine (board_iff _ (by rw [strB_size]; exact hl)).2 fun n hn => ?_
  rw [cel_strB l n (by omega) (fun x hx => letter_lt x (h x hx))]
  exact hcb _ (h _ (List.getElem_mem _))
/-- The text of a cell function. -/
def boardB (c : Nat → Nat) : ByteArray := strB ((List.range 90).map c)
theorem boardB_is (c : Nat → Nat) (h : ∀ n, n < 90 → c n ∈ letters) : isBoard (boardB c) = true := isBoard_strB _ (by simp) (by intro x hx; obtain ⟨n, hn, rfl⟩ := List.mem_map.1 hx; exact h n (List.mem_range.1 hn))
theorem boardB_cel (c : Nat → Nat) (h : ∀ n, n < 90 → c n ∈ letters) {n : Nat} (hn : n < 90) : cel (boardB c) n = c n := by
  unfold boardB
  rw [cel_strB _ n (by simpa using hn) (by intro x hx; obtain ⟨m, hm, rfl⟩ := List.mem_map.1 hx; exact letter_lt _ (h m (List.mem_range.1 hm)))]
  simp
def turnS (s : ByteArray) : ByteArray := if isBoard s = true then boardB (turnC (cel s)) else ⟨#[]⟩
theorem turnS_is {s : ByteArray} (hs : isBoard s = true) : isBoard (turnS s) = true ∧ ∀ n, n < 90 → cel (turnS s) n = turnC (cel s) n := by
  have hc : ∀ n, n < 90 → turnC (cel s) n ∈ letters := fun n hn => turnC_letters (fun m hm => board_cell hs hm) hn
  unfold turnS
  rw [if_pos hs]
  exact ⟨boardB_is _ hc, fun n hn => boardB_cel _ hc hn⟩
def turnP (p : Pos) : Pos := ⟨turnS p.cells, 1 - p.side, p.clock, p.full⟩
/-! ### numbers turned round -/
def flip (n : Nat) : Nat := 89 - n
def flipM (m : Mv) : Mv := (89 - m.1, 89 - m.2)
theorem range_flip : (List.range 90).reverse.map flip = List.range 90 := by decide
theorem filter_flip {P Q : Nat → Bool} (h : ∀ b, b < 90 → Q (89 - b) = P b) : (List.range 90).filter Q = (((List.range 90).filter P).map flip).reverse := by
  conv => lhs; rw [← range_flip]
  rw [List.filter_map, ← List.map_reverse, ← List.filter_reverse]
  congr 1
  refine List.filter_congr fun b hb => ?_
  have := List.mem_range.1 (List.mem_reverse.1 hb)
  exact h b this
theorem flatMap_flip {α : Type} {F G : Nat → List α} {g : α → α} (h : ∀ a, a < 90 → G (89 - a) = ((F a).map g).reverse) : (List.range 90).flatMap G = (((List.range 90).flatMap F).map g).reverse := by
  conv => lhs; rw [← range_flip]
  rw [List.flatMap_map, List.map_flatMap, List.reverse_flatMap]
  have e : ∀ l : List Nat, (∀ a ∈ l, a < 90) → l.flatMap (fun a => G (flip a)) = l.flatMap (List.reverse ∘ fun a => (F a).map g) := by
    intro l
    induction l with
    | nil => intro _; rfl
    | cons a l ih =>
      intro hl
      rw [List.flatMap_cons, List.flatMap_cons, ih (fun x hx => hl x (List.mem_cons_of_mem _ hx)), Function.comp, ← h a (hl a List.mem_cons_self)]
      rfl
  exact e _ (fun a ha => List.mem_range.1 (List.mem_reverse.1 ha))
theorem count_flip {P Q : Nat → Bool} (h : ∀ b, b < 90 → Q (89 - b) = P b) : (List.range 90).countP Q = (List.range 90).countP P := by
  rw [List.countP_eq_length_filter, List.countP_eq_length_filter, filter_flip h, List.length_reverse, List.length_map]
/-! ### the position from the other side -/
end Go.Proofs.YtllbkppdkldmiaaGreatDoor.K

/- A position's box. -/
namespace Go.Proofs.YtllbkppdkldmiaaGreatDoor.K
open Go.RowKit Go.Lib Go.Proofs.YtllbkppdkldmiaaGreatDoorW.PrintWords Go.Proofs.YtllbkppdkldmiaaGreatDoor.Sp
set_option linter.unusedVariables false
set_option linter.unusedSimpArgs false
/-- A position's box. -/
structure BoxP (W : World) (b : Nat) (p : Pos) : Prop where
  c0 : W.cell? ⟨b, 0, none⟩ = some (.string p.cells)
  c1 : W.cell? ⟨b, 1, none⟩ = some (.int .i64 p.side)
  c2 : W.cell? ⟨b, 2, none⟩ = some (.int .i64 p.clock)
  c3 : W.cell? ⟨b, 3, none⟩ = some (.int .i64 p.full)
theorem BoxP.below {W W' : World} {b : Nat} {p : Pos} (h : BoxP W b p) (hb : Below W.heap.size W W') : BoxP W' b p := ⟨below_cell hb _ _ _ h.c0, below_cell hb _ _ _ h.c1, below_cell hb _ _ _ h.c2, below_cell hb _ _ _ h.c3⟩
theorem BoxP.drew {W : World} {b : Nat} {p : Pos} (h : BoxP W b p) : BoxP W.drew b p := ⟨h.c0, h.c1, h.c2, h.c3⟩
theorem BoxP.new (w : World) (p : Pos) : BoxP (w.alloc (.cells #[.string p.cells, .int .i64 p.side, .int .i64 p.clock, .int .i64 p.full] 33)) w.heap.size p := by
  constructor <;> simp [World.cell?_alloc_at]
/-- Since an elder world, what lay there lies there still. -/
theorem below_go {w W W' : World} (h : Below w.heap.size w W) (hb : Below W.heap.size W W') : Below w.heap.size w W' := h.trans (hb.mono h.size)
theorem below_new {w W : World} (h : Below w.heap.size w W) (o : Obj) : Below w.heap.size w (W.alloc o) := below_go h (below_alloc (Below.refl _ _) _)
theorem below_drews {w W : World} (h : Below w.heap.size w W) (n : Nat) : Below w.heap.size w (W.drewN n) := pw_below_drewN h n
end Go.Proofs.YtllbkppdkldmiaaGreatDoor.K

/- Walks: the references' Of, Turn of a board and of a position. -/
namespace Go.Proofs.YtllbkppdkldmiaaGreatDoor.K
open Go.RowKit Go.Lib Go.Proofs.YtllbkppdkldmiaaGreatDoorW.PrintWords Go.Proofs.YtllbkppdkldmiaaGreatDoor.Sp
set_option linter.unusedVariables false
set_option linter.unusedSimpArgs false
attribute [local go_sem] cel_get   -- for this text's walks alone
theorem rof_c (k : Nat) (hk : k < 256) (side : Int) (x : Nat) (h : (if side = 1 then (k : Int) - 65 + 97 else k) = (x : Int)) (hr : side = 1 → 65 ≤ k ∧ k ≤ 90) (w : World) :
    Calls Tryz.prog 61 #[.int .u8 (k : Int), .int .i64 side] w fun e w' => e = .returned (.int .u8 (x : Int)) ∧ w' = w := by
  by_cases h1 : side = 1
  · rw [if_pos h1] at h
    obtain ⟨h2, h3⟩ := hr h1
    have q : (side == 1) = true := by rw [h1]; rfl
    have e1 : ((k : Int) - 65) % 256 = (k : Int) - 65 := by omega
    have e2 : ((k : Int) - 65 + 97) % 256 = (x : Int) := by omega
    clear h1 hr h hk
    go_enter Tryz.func61, Tryz.ntmps61
    go_wp2_with fail
    go_ret
    exact ⟨ret_int (by omega), rfl⟩
  · rw [if_neg h1] at h
    have q : (side == 1) = false := by rw [beq_eq_false_iff_ne]; exact h1
    clear h1 hr
    go_enter Tryz.func61, Tryz.ntmps61
    go_wp2_with fail
    go_ret
    exact ⟨ret_int h, rfl⟩
theorem turn_byte : ∀ x ∈ letters, (0 ≤ sideN x → (if 1 - sideN x = 1 then ((kindN x : Nat) : Int) - 65 + 97 else kindN x) = ((swapN x : Nat) : Int) ∧ (1 - sideN x = 1 → 65 ≤ kindN x ∧ kindN x ≤ 90)) ∧ (sideN x < 0 → swapN x = x) := by decide
theorem one_byte (x : Nat) (W : World) : (convert 64 9 (.slice (some ⟨W.heap.size, 0, none⟩) 1 1)).run Tryz.prog (W.alloc (.cells #[.int .u8 (x : Int)] 5)) = .ok (.string (strOfNums [(x : Int)])) (W.alloc (.cells #[.int .u8 (x : Int)] 5)) := by
  have h : BytesAt (W.alloc (.cells #[.int .u8 (x : Int)] 5)) W.heap.size [(x : Int)] := by
    intro i hi
    obtain rfl : i = 0 := by simp at hi; exact hi
    simp [World.cell?_alloc_at]
  exact bytes_string h 64 Tryz.underlying64
set_option maxRecDepth 100000 in
set_option maxHeartbeats 2000000 in
theorem rturn_c (s : ByteArray) (hs : isBoard s = true) (w : World) : Calls Tryz.prog 67 #[.string s] w fun e w' => e = .returned (.string (turnS s)) ∧ Below w.heap.size w w' := by
  have hz := board_size hs
  have HIS := Aside0.mk (fun W => ris_c s (by rw [hz]; unfold maxLen; omega) W)
  rw [hs] at HIS
  have HSZ := Aside0.mk hz
  have HLT := Aside0.mk (fun n (hn : n < 90) => board_cell hs hn)
  have HT := Aside0.mk (show turnS s = strB ((List.range 90).map (turnC (cel s))) by unfold turnS; rw [if_pos hs]; rfl)
  clear hs hz
  generalize turnS s = ts at *
  go_enter Tryz.func67, Tryz.ntmps67
  go_wp2_with (go_at_call 29; refine (HIS.out _).mono ?_; rintro e w1 ⟨rfl, rfl⟩)
  go_loopg [3, 4, 5] 90 (fun gg s3 s4 _ wr => ∃ (m : Nat) (acc : ByteArray), m = gg ∧ m ≤ 90 ∧ s3 = .string acc ∧ s4 = .int .i64 ((m : Int) - 1) ∧ Aside0 (acc = strB ((List.range (90 - m)).map (turnC (cel s)))) ∧ Aside0 (Below w1.heap.size w1 wr))
  case atStart => exact ⟨90, strB [], rfl, by omega, rfl, rfl, ⟨rfl⟩, ⟨Below.refl _ _⟩⟩
  case round =>
    obtain ⟨m, acc, rfl, hm, rfl, rfl, HACC, HB⟩ := hrel
    cases m with
    | zero =>
      have hn : ¬ (0 ≤ ((0 : Nat) : Int) - 1) := by omega
      go_wp2_with fail
      go_ret
      refine ⟨?_, HB.out⟩
      show Ending.returned (.string acc) = _
      rw [HT.out, HACC.out]
    | succ g =>
      have hg : ((g + 1 : Nat) : Int) - 1 = (g : Int) := by omega
      rw [hg]
      have hn : 0 ≤ (g : Int) := by omega
      have hsz : (g : Int) < (s.size : Int) := by rw [HSZ.out]; omega
      have hle := HLT.out g (by omega)
      have hstep : (List.range (90 - g)).map (turnC (cel s)) = (List.range (90 - (g + 1))).map (turnC (cel s)) ++ [swapN (cel s g)] := by
        rw [show 90 - g = (90 - (g + 1)) + 1 from by omega, List.range_succ, List.map_append]
        congr 1
        simp only [List.map_cons, List.map_nil]
        congr 1
        have := turnC_at (cel s) (n := g) (by omega)
        rw [show 89 - g = 90 - (g + 1) from by omega] at this
        exact this
      have hst2 : strB ((List.range (90 - g)).map (turnC (cel s))) = strB ((List.range (90 - (g + 1))).map (turnC (cel s))) ++ strOfNums [(swapN (cel s g) : Int)] := by rw [strB_snoc, hstep]
      rw [← HACC.out] at hst2
      have HST := Aside0.mk hst2
      have hbd : acc.size ≤ 90 := by rw [HACC.out, strB_size]; simp; omega
      obtain ⟨b1, b2⟩ := turn_byte _ hle
      have hsl := sideN_le (cel s g)
      have hsw : swapN (cel s g) < 256 := letter_lt _ (swap_facts _ hle).1
      have HS := Aside0.mk (fun W => rside_c (cel s g) (cel_lt s g) W)
      have HK := Aside0.mk (fun W => rkind_c (cel s g) (cel_lt s g) W)
      have hkl : kindN (cel s g) < 256 := by have := cel_lt s g; unfold kindN; split <;> (try split) <;> omega
      have HO := Aside0.mk (fun (h : 0 ≤ sideN (cel s g)) W => rof_c (kindN (cel s g)) hkl (1 - sideN (cel s g)) (swapN (cel s g)) (b1 h).1 (b1 h).2 W)
      have HG := Aside0.mk hm
      generalize hx : swapN (cel s g) = y at *
      have kc := one_byte y
      have hsn : (strOfNums [(y : Int)]).size = 1 := by simp [strOfNums, ByteArray.size]
      clear hstep hst2 hle hg hm hkl b1
      by_cases h0 : 0 ≤ sideN (cel s g)
      · have HO1 := Aside0.mk (HO.out h0)
        have s0 : 0 ≤ sideN (cel s g) := h0
        clear HO h0 b2
        generalize kindN (cel s g) = kd at *
        generalize sideN (cel s g) = sd at *
        generalize hxx : cel s g = xx at *
        go_wp2_with (first | (go_at_call 34; refine (HS.out _).mono ?_; rintro e w2 ⟨rfl, rfl⟩) | (go_at_call 35; refine (HK.out _).mono ?_; rintro e w2 ⟨rfl, rfl⟩) | (go_at_call 61; refine (HO1.out _).mono ?_; rintro e w2 ⟨rfl, rfl⟩) | (simp only [kc]))
        go_roundg g
        case measure => omega
        case rel => exact ⟨g, _, rfl, by have := HG.out; omega, rfl, by rw [show wrap64 ((g : Int) - 1) = (g : Int) - 1 by have := HG.out; unfold wrap64; omega], ⟨HST.out.symm⟩, ⟨HB.out.trans (below_alloc (Below.refl _ _) _ |>.mono HB.out.size)⟩⟩
      · have s0 : ¬ (0 ≤ sideN (cel s g)) := h0
        obtain rfl : y = cel s g := b2 (by omega)
        clear HO h0 b2 HK hx
        generalize sideN (cel s g) = sd at *
        generalize hxx : cel s g = xx at *
        go_wp2_with (first | (go_at_call 34; refine (HS.out _).mono ?_; rintro e w2 ⟨rfl, rfl⟩) | (simp only [kc]))
        go_roundg g
        case measure => omega
        case rel => exact ⟨g, _, rfl, by have := HG.out; omega, rfl, by rw [show wrap64 ((g : Int) - 1) = (g : Int) - 1 by have := HG.out; unfold wrap64; omega], ⟨HST.out.symm⟩, ⟨HB.out.trans (below_alloc (Below.refl _ _) _ |>.mono HB.out.size)⟩⟩
/-- Turn's box beside its result's. -/
structure TwAt (w0 W : World) (p : Pos) : Prop where
  box : BoxP W w0.heap.size p
  r0 : W.cell? ⟨w0.heap.size + 1, 0, none⟩ = some (.string { data := #[] })
  r1 : W.cell? ⟨w0.heap.size + 1, 1, none⟩ = some (.int .i64 0)
  r2 : W.cell? ⟨w0.heap.size + 1, 2, none⟩ = some (.int .i64 0)
  r3 : W.cell? ⟨w0.heap.size + 1, 3, none⟩ = some (.int .i64 0)
  fr : ∀ k, W.frozen? ⟨w0.heap.size + 1, k, none⟩ = false
  bel : Below w0.heap.size w0 W
theorem TwAt.below {w0 W W' : World} {p : Pos} (h : TwAt w0 W p) (hb : Below W.heap.size W W') : TwAt w0 W' p :=
  ⟨h.box.below hb, below_cell hb _ _ _ h.r0, below_cell hb _ _ _ h.r1, below_cell hb _ _ _ h.r2, below_cell hb _ _ _ h.r3, fun k => (hb.frozen (p := ⟨w0.heap.size + 1, k, none⟩) (show w0.heap.size + 1 < W.heap.size from World.block_lt_of_cell? W ⟨w0.heap.size + 1, 0, none⟩ h.r0)).trans (h.fr k), below_go h.bel hb⟩
set_option maxRecDepth 100000 in
set_option maxHeartbeats 4000000 in
theorem pturn_c (p : Pos) (hb : isBoard p.cells = true) (hs : p.side = 0 ∨ p.side = 1) (w : World) : Calls Tryz.prog 30 #[posV p] w fun e w' => e = .returned (posV (turnP p)) ∧ Below w.heap.size w w' := by
  have HT := Aside0.mk (fun W => rturn_c p.cells hb W)
  have hu := Tryz.underlying33
  have s0 : 0 ≤ p.side := by omega
  have s1 : p.side ≤ 1 := by omega
  have k1 : wrap64 (1 - p.side) = 1 - p.side := by unfold wrap64; omega
  have k2 : IntKind.i64.wrap (1 - p.side) = 1 - p.side := by rw [IntKind.wrap_i64]; omega
  unfold turnP
  generalize turnS p.cells = ts at *
  have HB := Aside0.mk (BoxP.new w p)
  have HW0 := Aside0.mk (below_new (Below.refl w.heap.size w) (.cells #[.string p.cells, .int .i64 p.side, .int .i64 p.clock, .int .i64 p.full] 33))
  clear hb hs
  go_enter Tryz.func30, Tryz.ntmps30
  go_wp2_with fail
  have HTW := Aside0.mk (show TwAt w ((w.alloc (.cells #[.string p.cells, .int .i64 p.side, .int .i64 p.clock, .int .i64 p.full] 33)).alloc (.cells #[.string { data := #[] }, .int .i64 0, .int .i64 0, .int .i64 0] 33)) p from ⟨HB.out.below (below_alloc (Below.refl _ _) _), by simp [World.cell?_alloc_at], by simp [World.cell?_alloc_at], by simp [World.cell?_alloc_at], by simp [World.cell?_alloc_at], fun k => by simp, below_new HW0.out _⟩)
  clear HB HW0
  generalize (w.alloc (.cells #[.string p.cells, .int .i64 p.side, .int .i64 p.clock, .int .i64 p.full] 33)).alloc (.cells #[.string { data := #[] }, .int .i64 0, .int .i64 0, .int .i64 0] 33) = W1 at *
  obtain ⟨e0, e1, e2, e3⟩ := HTW.out.box
  have HT1 := Aside0.mk (HTW.out.below (pw_below_drewN (Below.refl _ _) 1) : TwAt w W1.drew p)
  clear HTW
  have hne : w.heap.size + 1 ≠ w.heap.size := by omega
  go_region_held3 (fun W => W.cell? ⟨w.heap.size, 0, none⟩ = some (.string p.cells) ∧ W.cell? ⟨w.heap.size, 1, none⟩ = some (.int .i64 p.side) ∧ W.cell? ⟨w.heap.size, 2, none⟩ = some (.int .i64 p.clock) ∧ W.cell? ⟨w.heap.size, 3, none⟩ = some (.int .i64 p.full)) (go_keep)
    (first
      | (go_at_call 67; refine (HT.out _).mono ?_; rintro e w2 ⟨rfl, hb⟩; have HT2 := Aside0.mk (HT1.out.below hb); clear HT1 hb e0 e1 e2 e3; obtain ⟨e0, e1, e2, e3⟩ := HT2.out.box; have r0 := HT2.out.r0; have r1 := HT2.out.r1; have r2 := HT2.out.r2; have r3 := HT2.out.r3; have fr := HT2.out.fr))
  all_goals
    go_wp2_with fail
    refine bodyPost_ret (by simp [results, Tryz.results30, go_sem, r0, r1, r2, r3]; try rfl) rfl ?_
    refine ⟨rfl, ?_⟩
    (repeat' (first | (with_reducible exact Below.refl _ _) | (with_reducible refine pw_below_drewN ?_ _) | (with_reducible refine below_alloc ?_ _) | (with_reducible refine Below.drew ?_) | (with_reducible refine Below.setCell ?_ ?_ _) | (simp; done))) <;> first | exact HT2.out.bel | (simp; done) | (simp; omega)
end Go.Proofs.YtllbkppdkldmiaaGreatDoor.K

/- CheckTurn: plain law. -/
namespace Go.Proofs.YtllbkppdkldmiaaGreatDoor.K
open Go.RowKit Go.Lib Go.Proofs.YtllbkppdkldmiaaGreatDoorW.PrintWords Go.Proofs.YtllbkppdkldmiaaGreatDoor.Sp
set_option linter.unusedVariables false
theorem pawn_swap (a : Int) (ha : a = 0 ∨ a = 1) : swapN (pawnO a) = pawnO (1 - a) ∧ pawnO a ∈ letters := by
  rcases ha with rfl | rfl <;> decide
/-- Who attacks a square, seen from the other side. -/
theorem att_turn {s : ByteArray} (hs : isBoard s = true) (n : Nat) (hn : n < 90) (a : Int) (ha : a = 0 ∨ a = 1) : attS (turnS s) ((89 - n : Nat) : Int) (1 - a) = ((attS s (n : Int) a).map flip).reverse := by
  have hz := board_size hs
  obtain ⟨hts, htc⟩ := turnS_is hs
  have hz2 := board_size hts
  obtain ⟨hc1, hc2⟩ := pawnO_cell a
  obtain ⟨hd1, hd2⟩ := pawnO_cell (1 - a)
  obtain ⟨hsw, hlp⟩ := pawn_swap a ha
  rw [att_same s hs n hn a ha, att_same (turnS s) hts (89 - n) (by omega) (1 - a) (by omega)]
  have hb := putT_board s hs n (pawnO a) hc1 hc2
  have hcel : ∀ i, i < 90 → cel (putT s n (pawnO a)) i = if i = n then pawnO a else cel s i := fun i hi => putT_cel s n _ i hc2 (by omega)
  have hcel2 : ∀ i, i < 90 → cel (putT (turnS s) (89 - n) (pawnO (1 - a))) i = turnC (cel (putT s n (pawnO a))) i := by
    intro i hi
    rw [putT_cel _ _ _ i hd2 (by omega)]
    unfold turnC
    rw [hcel (89 - i) (by omega)]
    by_cases h : i = 89 - n
    · rw [if_pos h, if_pos (by omega), hsw]
    · rw [if_neg h, if_neg (by omega), htc i hi]; rfl
  have hl : ∀ i, i < 90 → cel (putT s n (pawnO a)) i ∈ letters := fun i hi => board_cell hb hi
  unfold rattL
  refine filter_flip fun f hf => ?_
  have e1 := hcel2 (89 - f) (by omega)
  rw [turnC_at _ hf] at e1
  rw [e1, fast_congr hcel2 (by omega) (by omega) (fun i hi => by rw [hcel2 i hi]; exact turnC_letters hl hi), fast_turn hl hf hn]
  congr 1
  obtain ⟨_, _, _, fs, _⟩ := swap_facts _ (hl f hf)
  rw [fs]
  have := sideV (cel (putT s n (pawnO a)) f)
  rw [Bool.eq_iff_iff, beq_iff_eq, beq_iff_eq]
  split <;> omega
theorem swap14' : ∀ x ∈ pieces14, swapN x ∈ pieces14 ∧ x ∈ letters ∧ swapN (swapN x) = x ∧ kindN (swapN x) = kindN x ∧ mostN (swapN x) = mostN x := by decide
theorem find_turn {s : ByteArray} (hs : isBoard s = true) (x : Nat) (hx : x ∈ pieces14) : findS (turnS s) x = ((findS s (swapN x)).map flip).reverse := by
  obtain ⟨hts, htc⟩ := turnS_is hs
  obtain ⟨m1, m2, m3, m4, m5⟩ := swap14' x hx
  unfold findS
  rw [if_pos hts, if_pos hs]
  refine filter_flip fun b hb => ?_
  rw [htc _ (by omega), turnC_at _ hb]
  have hl := board_cell hs hb
  rw [Bool.eq_iff_iff, decide_eq_true_eq, decide_eq_true_eq]
  constructor
  · intro h; rw [← h]; exact ((swap_facts _ hl).2.2.2.2).symm
  · intro h; rw [h]; exact m3
/-- A position's errors but for checks, seen from the other side. -/
theorem check_turn' {p : Pos} (hb : isBoard p.cells = true) (hs : p.side = 0 ∨ p.side = 1) : checkP (turnP p) = checkP p := by
  obtain ⟨ht, hc⟩ := turnS_is hb
  have hl : ∀ n, n < 90 → cel p.cells n ∈ letters := fun n hn => board_cell hb hn
  have e1 : argOk (turnP p) = argOk p := by
    unfold argOk
    rw [show (turnP p).cells = turnS p.cells from rfl, show (turnP p).side = 1 - p.side from rfl, show (turnP p).clock = p.clock from rfl, show (turnP p).full = p.full from rfl, ht, hb]
    congr 1
    rw [Bool.eq_iff_iff, decide_eq_true_eq, decide_eq_true_eq]
    constructor <;> rintro ⟨h1, h2⟩ <;> exact ⟨by omega, h2⟩
  have hcnt : ∀ x ∈ pieces14, cntX (turnS p.cells) 90 x = cntX p.cells 90 (swapN x) := by
    intro x hx
    obtain ⟨m1, m2, m3, m4, m5⟩ := swap14' x hx
    unfold cntX
    refine count_flip (fun b hb => ?_)
    rw [hc _ (by omega), turnC_at _ hb, Bool.eq_iff_iff, beq_iff_eq, beq_iff_eq]
    constructor
    · intro h; rw [← h]; exact ((swap_facts _ (hl b hb)).2.2.2.2).symm
    · intro h; rw [h]; exact m3
  have hbad : ∀ x ∈ pieces14, badX (turnS p.cells) x = badX p.cells (swapN x) := by
    intro x hx
    obtain ⟨m1, m2, m3, m4, m5⟩ := swap14' x hx
    unfold badX
    rw [hcnt x hx, m4, m5]
  have e2 : pieces14.any (badX (turnS p.cells)) = pieces14.any (badX p.cells) := by
    rw [Bool.eq_iff_iff, List.any_eq_true, List.any_eq_true]
    constructor
    · rintro ⟨x, hx, h⟩
      exact ⟨swapN x, (swap14' x hx).1, by rw [← hbad x hx]; exact h⟩
    · rintro ⟨x, hx, h⟩
      refine ⟨swapN x, (swap14' x hx).1, ?_⟩
      rw [hbad _ (swap14' x hx).1, (swap14' x hx).2.2.1]
      exact h
  have hone : ∀ n, n < 90 → (cel (turnS p.cells) n == 46 || mayN (cel (turnS p.cells) n) n) = (cel p.cells (89 - n) == 46 || mayN (cel p.cells (89 - n)) (89 - n)) := by
    intro n hn
    rw [hc n hn]
    have hfl : 89 - (89 - n) = n := by omega
    have := may_turn _ (hl (89 - n) (by omega)) ⟨89 - n, by omega⟩
    simp only [hfl] at this
    have e46 : (turnC (cel p.cells) n == 46) = (cel p.cells (89 - n) == 46) := by
      have := turnC_empty hl (n := 89 - n) (by omega)
      rw [hfl] at this
      exact this
    rw [e46]
    unfold turnC
    rw [this]
  have e3 : rightX (turnS p.cells) 90 = rightX p.cells 90 := by
    unfold rightX
    rw [Bool.eq_iff_iff, List.all_eq_true, List.all_eq_true]
    constructor
    · intro h n hn
      have hn := List.mem_range.1 hn
      have := h (89 - n) (List.mem_range.2 (by omega))
      rw [hone _ (by omega), show 89 - (89 - n) = n by omega] at this
      exact this
    · intro h n hn
      have hn := List.mem_range.1 hn
      rw [hone _ hn]
      exact h (89 - n) (List.mem_range.2 (by omega))
  unfold checkP
  rw [e1, show (turnP p).cells = turnS p.cells from rfl, e2, e3]
end Go.Proofs.YtllbkppdkldmiaaGreatDoor.K

/- CheckTurn: plain law (2). -/
namespace Go.Proofs.YtllbkppdkldmiaaGreatDoor.K
open Go.RowKit Go.Lib Go.Proofs.YtllbkppdkldmiaaGreatDoorW.PrintWords Go.Proofs.YtllbkppdkldmiaaGreatDoor.Sp
set_option linter.unusedVariables false
/-- One general of each side. -/
structure OneK (s : ByteArray) (a b : Nat) : Prop where
  bd : isBoard s = true
  fa : findS s 75 = [a]
  fb : findS s 107 = [b]
theorem OneK.lt {s : ByteArray} {a b : Nat} (h : OneK s a b) : a < 90 ∧ b < 90 :=
  ⟨(findS_lt s 75 a (by rw [h.fa]; exact List.mem_cons_self)).1, (findS_lt s 107 b (by rw [h.fb]; exact List.mem_cons_self)).1⟩
theorem OneK.gen {s : ByteArray} {a b : Nat} (h : OneK s a b) : genS s 0 = a ∧ genS s 1 = b := by
  constructor
  · unfold genS; rw [if_pos (.inl rfl), show kingO 0 = 75 from rfl, h.fa]; rfl
  · unfold genS; rw [if_pos (.inr rfl), show kingO 1 = 107 from rfl, h.fb]; rfl
theorem OneK.turn {s : ByteArray} {a b : Nat} (h : OneK s a b) : OneK (turnS s) (89 - b) (89 - a) := by
  refine ⟨(turnS_is h.bd).1, ?_, ?_⟩
  · rw [find_turn h.bd 75 (by decide), show swapN 75 = 107 by decide, h.fb]; rfl
  · rw [find_turn h.bd 107 (by decide), show swapN 107 = 75 by decide, h.fa]; rfl
theorem oneK_of {s : ByteArray} (hs : isBoard s = true) (h1 : (findS s 75).length = 1) (h2 : (findS s 107).length = 1) : ∃ a b, OneK s a b := by
  obtain ⟨a, ha⟩ := List.length_eq_one_iff.1 h1
  obtain ⟨b, hb⟩ := List.length_eq_one_iff.1 h2
  exact ⟨a, b, hs, ha, hb⟩
theorem fac_turn {s : ByteArray} {a b : Nat} (h : OneK s a b) : facS (turnS s) = facS s := by
  obtain ⟨la, lb⟩ := h.lt
  obtain ⟨g0, g1⟩ := h.gen
  obtain ⟨t0, t1⟩ := h.turn.gen
  obtain ⟨htb, htc⟩ := turnS_is h.bd
  have hl : ∀ n, n < 90 → cel s n ∈ letters := fun n hn => board_cell h.bd hn
  have hbt : betwS (turnS s) ((89 - b : Nat) : Int) ((89 - a : Nat) : Int) = betwS s (a : Int) (b : Int) := by
    unfold betwS
    rw [if_pos ⟨htb, ⟨by omega, by omega⟩, ⟨by omega, by omega⟩⟩, if_pos ⟨h.bd, ⟨by omega, by omega⟩, ⟨by omega, by omega⟩⟩]
    simp only [Int.toNat_natCast]
    rw [betw_congr htc (by omega) (by omega), betw_turn hl lb la, betw_sym _ lb la]
  have hfl : (fileS ((89 - b : Nat) : Int) == fileS ((89 - a : Nat) : Int)) = (fileS (a : Int) == fileS (b : Int)) := by
    unfold fileS
    rw [if_pos ⟨by omega, by omega⟩, if_pos ⟨by omega, by omega⟩, if_pos ⟨by omega, by omega⟩, if_pos ⟨by omega, by omega⟩, Bool.eq_iff_iff, beq_iff_eq, beq_iff_eq]
    omega
  unfold facS
  rw [g0, g1, t0, t1, hbt, hfl, decide_eq_true (show (0 : Int) ≤ ((89 - b : Nat) : Int) by omega), decide_eq_true (show (0 : Int) ≤ ((89 - a : Nat) : Int) by omega), decide_eq_true (show (0 : Int) ≤ (a : Int) by omega), decide_eq_true (show (0 : Int) ≤ (b : Int) by omega)]
theorem in_turn {s : ByteArray} {a b : Nat} (h : OneK s a b) (x : Int) (hx : x = 0 ∨ x = 1) : inS (turnS s) (1 - x) = inS s x := by
  obtain ⟨la, lb⟩ := h.lt
  obtain ⟨g0, g1⟩ := h.gen
  obtain ⟨t0, t1⟩ := h.turn.gen
  have key : ∀ g : Nat, g < 90 → (attS (turnS s) ((89 - g : Nat) : Int) (1 - (1 - x))).length = (attS s (g : Int) (1 - x)).length := by
    intro g hg
    rw [att_turn h.bd g hg (1 - x) (by omega), List.length_reverse, List.length_map]
  unfold inS
  rcases hx with rfl | rfl
  · rw [show (1 : Int) - 0 = 1 from rfl, t1, g0]
    have := key a la
    rw [show (1 : Int) - 0 = 1 from rfl] at this
    rw [this, decide_eq_true (show (0 : Int) ≤ ((89 - a : Nat) : Int) by omega), decide_eq_true (show (0 : Int) ≤ (a : Int) by omega)]
  · rw [show (1 : Int) - 1 = 0 from rfl, t0, g1]
    have := key b lb
    rw [show (1 : Int) - 1 = 0 from rfl] at this
    rw [this, decide_eq_true (show (0 : Int) ≤ ((89 - b : Nat) : Int) by omega), decide_eq_true (show (0 : Int) ≤ (b : Int) by omega)]
theorem check_one {p : Pos} (h : checkP p = 0) : ∃ a b, OneK p.cells a b := by
  have hok : argOk p = true := by
    cases hok : argOk p
    · unfold checkP at h; rw [hok] at h; simp at h
    · rfl
  obtain ⟨hb, _⟩ := argOk_yes hok
  have hany : pieces14.any (badX p.cells) = false := by
    cases hq : pieces14.any (badX p.cells)
    · rfl
    · unfold checkP at h; rw [hok, hq] at h; simp at h
  have key : ∀ x, x ∈ pieces14 → kindN x = 75 → (findS p.cells x).length = 1 := by
    intro x hx hk
    have hb2 : badX p.cells x = false := by
      cases hq : badX p.cells x
      · rfl
      · exact absurd (List.any_eq_true.2 ⟨x, hx, hq⟩) (by rw [hany]; decide)
    unfold badX at hb2
    simp only [Bool.or_eq_false_iff, Bool.and_eq_false_iff] at hb2
    have h1 : cntX p.cells 90 x = 1 := by
      rcases hb2.2 with h2 | h2
      · rw [hk] at h2; simp at h2
      · simpa using h2
    unfold findS
    rw [if_pos hb, ← List.countP_eq_length_filter]
    unfold cntX at h1
    rw [← h1]
    refine List.countP_congr fun i _ => ?_
    simp
  exact oneK_of hb (key 75 (by decide) (by decide)) (key 107 (by decide) (by decide))
/-- What is wrong with a position, seen from the other side. -/
theorem well_turn {p : Pos} (hb : isBoard p.cells = true) (hs : p.side = 0 ∨ p.side = 1) : wellS (turnP p) = wellS p := by
  unfold wellS
  rw [check_turn' hb hs]
  by_cases hc : checkP p = 0
  · have e : ¬ (checkP p ≠ 0) := by simpa using hc
    rw [if_neg e, if_neg e]
    obtain ⟨a, b, h1⟩ := check_one hc
    rw [show (turnP p).cells = turnS p.cells from rfl, fac_turn h1, show (1 : Int) - (turnP p).side = 1 - (1 - p.side) from rfl, in_turn h1 (1 - p.side) (by omega)]
  · rw [if_pos hc, if_pos hc]
end Go.Proofs.YtllbkppdkldmiaaGreatDoor.K

/- CheckTurn: the walk. -/
namespace Go.Proofs.YtllbkppdkldmiaaGreatDoor.K
open Go.RowKit Go.Lib Go.Proofs.YtllbkppdkldmiaaGreatDoorW.PrintWords Go.Proofs.YtllbkppdkldmiaaGreatDoor.Sp
set_option linter.unusedVariables false
set_option linter.unusedSimpArgs false
/-- The boxes of p and of q. -/
structure TuAt (w0 W : World) (p q : Pos) (B : Nat) : Prop where
  c0 : W.cell? ⟨w0.heap.size, 0, none⟩ = some (.string p.cells)
  c1 : W.cell? ⟨w0.heap.size, 1, none⟩ = some (.int .i64 p.side)
  c2 : W.cell? ⟨w0.heap.size, 2, none⟩ = some (.int .i64 p.clock)
  c3 : W.cell? ⟨w0.heap.size, 3, none⟩ = some (.int .i64 p.full)
  d0 : W.cell? ⟨B, 0, none⟩ = some (.string q.cells)
  d1 : W.cell? ⟨B, 1, none⟩ = some (.int .i64 q.side)
  d2 : W.cell? ⟨B, 2, none⟩ = some (.int .i64 q.clock)
  d3 : W.cell? ⟨B, 3, none⟩ = some (.int .i64 q.full)
  bel : Below w0.heap.size w0 W
theorem TuAt.below {w0 W W' : World} {p q : Pos} {B : Nat} (h : TuAt w0 W p q B) (hb : Below W.heap.size W W') : TuAt w0 W' p q B := by
  have hl := World.block_lt_of_cell? W _ h.c0
  have hm := World.block_lt_of_cell? W _ h.d0
  exact ⟨(hb.cell (p := ⟨w0.heap.size, 0, none⟩) hl).trans h.c0, (hb.cell (p := ⟨w0.heap.size, 1, none⟩) hl).trans h.c1, (hb.cell (p := ⟨w0.heap.size, 2, none⟩) hl).trans h.c2, (hb.cell (p := ⟨w0.heap.size, 3, none⟩) hl).trans h.c3, (hb.cell (p := ⟨B, 0, none⟩) hm).trans h.d0, (hb.cell (p := ⟨B, 1, none⟩) hm).trans h.d1, (hb.cell (p := ⟨B, 2, none⟩) hm).trans h.d2, (hb.cell (p := ⟨B, 3, none⟩) hm).trans h.d3, h.bel.trans (hb.mono h.bel.size)⟩
theorem TuAt.drew {w0 W : World} {p q : Pos} {B : Nat} (h : TuAt w0 W p q B) : TuAt w0 W.drew p q B := h.below (pw_below_drewN (Below.refl _ _) 1)
theorem TuAt.new {w0 W : World} {p : Pos} (h : WeAt w0 W p) (q : Pos) : TuAt w0 (W.alloc (.cells #[.string q.cells, .int .i64 q.side, .int .i64 q.clock, .int .i64 q.full] 33)) p q W.heap.size := by
  have h1 := h.below (below_alloc (Below.refl W.heap.size W) (.cells #[.string q.cells, .int .i64 q.side, .int .i64 q.clock, .int .i64 q.full] 33))
  exact ⟨h1.c0, h1.c1, h1.c2, h1.c3, by simp [World.cell?_alloc_at], by simp [World.cell?_alloc_at], by simp [World.cell?_alloc_at], by simp [World.cell?_alloc_at], h1.bel⟩
set_option maxRecDepth 100000 in
set_option maxHeartbeats 4000000 in
/-- The ways on which nothing is asked. -/
theorem turn_idle (w : World) (p : Pos) (n : Int) (hmx : p.cells.size ≤ maxLen) (hT : TabW w) (h : 200 < p.cells.size ∨ isBoard p.cells = false ∨ ¬ (0 ≤ n ∧ n < 90) ∨ ¬ (p.side = 0 ∨ p.side = 1)) : Calls Tryz.prog 5 #[posV p, .int .i64 n] w fun e w' => e = .returned (.bool true) ∧ Below w.heap.size w w' := by
  have HT := Aside0.mk (fun (W : World) (hb : Below w.heap.size w W) => hT.below hb)
  have HLV := Aside0.mk (fun (W : World) (hT : TabW W) => live7_c W hT)
  have hu := Tryz.underlying33
  have HP0 := Aside0.mk (WeAt.new w p)
  have HIS := Aside0.mk (fun W => ris_c p.cells hmx W)
  by_cases h200 : p.cells.size > 200
  · have h1 : (200 : Int) < (p.cells.size : Int) := by omega
    clear h200 hmx hT HIS h
    go_enter Tryz.func5, Tryz.ntmps5
    go_wp2_with (go_at_call 16; refine (HLV.out _ (HT.out _ HP0.out.bel)).mono ?_; rintro e w1 ⟨rfl, hb⟩; have HW1 := Aside0.mk (HP0.out.bel.trans (hb.mono HP0.out.bel.size)); clear hb)
    go_ret
    exact ⟨rfl, HW1.out⟩
  have h1 : (p.cells.size : Int) ≤ 200 := by omega
  cases hs : isBoard p.cells with
  | false =>
    rw [hs] at HIS
    clear h200 hmx hT h hs
    go_enter Tryz.func5, Tryz.ntmps5
    go_wp2_with (first
      | (go_at_call 29; refine (HIS.out _).mono ?_; rintro e w1 ⟨rfl, rfl⟩)
      | (go_at_call 16; refine (HLV.out _ (HT.out _ HP0.out.bel)).mono ?_; rintro e w1 ⟨rfl, hb⟩; have HW1 := Aside0.mk (HP0.out.bel.trans (hb.mono HP0.out.bel.size)); clear hb))
    go_ret
    exact ⟨rfl, HW1.out⟩
  | true =>
  rw [hs] at HIS
  have hq : n < 0 ∨ (0 ≤ n ∧ 89 < n) ∨ ((0 ≤ n ∧ n ≤ 89) ∧ p.side < 0) ∨ ((0 ≤ n ∧ n ≤ 89) ∧ 0 ≤ p.side ∧ 1 < p.side) := by
    rcases h with h | h | h | h
    · omega
    · rw [hs] at h; cases h
    · omega
    · by_cases hn : 0 ≤ n ∧ n ≤ 89
      · omega
      · omega
  clear h200 hmx hT h hs
  rcases hq with h2 | ⟨h2, h3⟩ | ⟨⟨h2, h3⟩, h4⟩ | ⟨⟨h2, h3⟩, h4, h5⟩
  all_goals
    go_enter Tryz.func5, Tryz.ntmps5
    go_wp2_with (first
      | (go_at_call 29; refine (HIS.out _).mono ?_; rintro e w1 ⟨rfl, rfl⟩)
      | (go_at_call 16; refine (HLV.out _ (HT.out _ HP0.out.bel)).mono ?_; rintro e w1 ⟨rfl, hb⟩; have HW1 := Aside0.mk (HP0.out.bel.trans (hb.mono HP0.out.bel.size)); clear hb))
    go_ret
    exact ⟨rfl, HW1.out⟩
end Go.Proofs.YtllbkppdkldmiaaGreatDoor.K

/- CheckTurn: the walk (2). -/
namespace Go.Proofs.YtllbkppdkldmiaaGreatDoor.K
open Go.RowKit Go.Lib Go.Proofs.YtllbkppdkldmiaaGreatDoorW.PrintWords Go.Proofs.YtllbkppdkldmiaaGreatDoor.Sp
set_option linter.unusedVariables false
set_option linter.unusedSimpArgs false
theorem rev_flip {l : List Nat} {i : Nat} (hi : i < l.length) (h : l.length - 1 - i < ((l.map flip).reverse).length) : ((l.map flip).reverse)[l.length - 1 - i] = flip l[i] := by
  rw [List.getElem_reverse, List.getElem_map]
  congr 1
  simp only [List.length_map]
  congr 1
  omega
theorem findN_len {s : ByteArray} (hs : isBoard s = true) (x : Nat) : (findN s x).length = (findS s x).length := by
  unfold findN findS findL
  rw [if_pos hs, if_pos hs, ← List.countP_eq_length_filter, ← List.countP_eq_length_filter]
  refine List.countP_congr fun i _ => ?_
  simp
set_option maxRecDepth 100000 in
set_option maxHeartbeats 4000000 in
theorem turn7Law (w : World) (p : Pos) (n : Int) (hmx : p.cells.size ≤ maxLen) (hT : TabW w) : Calls Tryz.prog 5 #[posV p, .int .i64 n] w fun e w' => e = .returned (.bool true) ∧ Below w.heap.size w w' := by
  by_cases hin : 200 < p.cells.size ∨ isBoard p.cells = false ∨ ¬ (0 ≤ n ∧ n < 90) ∨ ¬ (p.side = 0 ∨ p.side = 1)
  · exact turn_idle w p n hmx hT hin
  have hs : isBoard p.cells = true := by
    cases hs : isBoard p.cells
    · exact absurd (.inr (.inl hs)) hin
    · rfl
  have hn : 0 ≤ n ∧ n < 90 := Classical.byContradiction fun h => hin (.inr (.inr (.inl h)))
  have hsd : p.side = 0 ∨ p.side = 1 := Classical.byContradiction fun h => hin (.inr (.inr (.inr h)))
  have hsz := board_size hs
  obtain ⟨m, rfl⟩ : ∃ m : Nat, n = m := ⟨n.toNat, by omega⟩
  have hm : m < 90 := by omega
  have HT := Aside0.mk (fun (W : World) (hb : Below w.heap.size w W) => hT.below hb)
  have HLV := Aside0.mk (fun (W : World) (hT : TabW W) => live7_c W hT)
  have hu := Tryz.underlying33
  have HP0 := Aside0.mk (WeAt.new w p)
  have HIS := Aside0.mk (fun W => ris_c p.cells hmx W)
  rw [hs] at HIS
  have HTN := Aside0.mk (fun W => pturn_c p hs hsd W)
  have HA := Aside0.mk (fun (W : World) (hT : TabW W) => att_c p.cells (m : Int) 0 W hT)
  have HB := Aside0.mk (fun (W : World) (hT : TabW W) => att_c (turnS p.cells) ((89 - m : Nat) : Int) 1 W hT)
  rw [show (1 : Int) = 1 - 0 from rfl, att_turn hs m hm 0 (.inl rfl), show (1 : Int) - 0 = 1 from rfl] at HB
  have HWP := Aside0.mk (fun (W : World) (hT : TabW W) => well_c p W hT)
  have HWQ := Aside0.mk (fun (W : World) (hT : TabW W) => well_c (turnP p) W hT)
  rw [well_turn hs hsd] at HWQ
  have HL := Aside0.mk (attS_len p.cells (m : Int) 0)
  have HF1 : Aside0 (∀ W, Calls Tryz.prog 32 #[.string p.cells, .int .u8 75] W fun e w' => ∃ v, e = .returned v ∧ OwnI w' W.heap.size v (findN p.cells 75) ∧ Below W.heap.size W w') := ⟨fun W => rfind_c p.cells hmx 75 (by omega) W⟩
  have HF2 : Aside0 (∀ W, Calls Tryz.prog 32 #[.string p.cells, .int .u8 107] W fun e w' => ∃ v, e = .returned v ∧ OwnI w' W.heap.size v (findN p.cells 107) ∧ Below W.heap.size W w') := ⟨fun W => rfind_c p.cells hmx 107 (by omega) W⟩
  have HEQ := Aside0.mk (show (findN p.cells 75).length = 1 → (findN p.cells 107).length = 1 → inS (turnS p.cells) 1 = inS p.cells 0 ∧ facS (turnS p.cells) = facS p.cells from by
    intro h1 h2
    rw [findN_len hs] at h1 h2
    obtain ⟨a, b, hk⟩ := oneK_of hs h1 h2
    exact ⟨in_turn hk 0 (.inl rfl), fac_turn hk⟩)
  have HI0 := Aside0.mk (fun (W : World) (hT : TabW W) => in_c p.cells 0 W hT)
  have HI1 := Aside0.mk (fun (W : World) (hT : TabW W) => in_c (turnS p.cells) 1 W hT)
  have HC0 := Aside0.mk (fun (W : World) (hT : TabW W) => fac_c p.cells W hT)
  have HC1 := Aside0.mk (fun (W : World) (hT : TabW W) => fac_c (turnS p.cells) W hT)
  have HFL1 := Aside0.mk (show (findN p.cells 75).length ≤ 90 by rw [findN_len hs]; exact findS_len _ _)
  have HFL2 := Aside0.mk (show (findN p.cells 107).length ≤ 90 by rw [findN_len hs]; exact findS_len _ _)
  generalize findN p.cells 75 = f1 at *
  generalize findN p.cells 107 = f2 at *
  have e89 : (89 : Int) - (m : Int) = ((89 - m : Nat) : Int) := by omega
  have s0 : 0 ≤ p.side := by omega
  have s1 : p.side ≤ 1 := by omega
  have m0 : (m : Int) ≤ 89 := by omega
  have m1 : 0 ≤ (m : Int) := by omega
  have z1 : (p.cells.size : Int) ≤ 200 := by omega
  have HS := Aside0.mk hs
  have HLT := Aside0.mk (show ∀ x ∈ attS p.cells (m : Int) 0, x < 90 from by
    intro x hx
    rw [att_same p.cells hs m hm 0 (.inl rfl)] at hx
    exact List.mem_range.1 (List.mem_filter.1 hx).1)
  generalize attS p.cells (m : Int) 0 = l at *
  have HTN : Aside0 (∀ W, Calls Tryz.prog 30 #[posV p] W fun e w' => e = .returned (.agg #[.string (turnS p.cells), .int .i64 (1 - p.side), .int .i64 p.clock, .int .i64 p.full]) ∧ Below W.heap.size W w') := HTN
  have HWQ : Aside0 (∀ W, TabW W → Calls Tryz.prog 31 #[.agg #[.string (turnS p.cells), .int .i64 (1 - p.side), .int .i64 p.clock, .int .i64 p.full]] W fun e w' => e = .returned (.int .i64 (wellS p)) ∧ Below W.heap.size W w') := HWQ
  generalize hq1 : turnS p.cells = qc at *
  generalize hq2 : (1 : Int) - p.side = qs at *
  have HQ := Aside0.mk hq1
  generalize wellS p = ws at *
  clear hmx hT hin hs hn hsd hsz hm hq1 hq2
  generalize hmn : (89 - m : Nat) = mn at *
  clear hmn
  go_enter Tryz.func5, Tryz.ntmps5
  go_upto_region 3 with (first
    | (go_at_call 29; refine (HIS.out _).mono ?_; rintro e w1 ⟨rfl, rfl⟩))
  go_upto_region 4 with (first
    | (go_at_call 30; refine (HTN.out _).mono ?_; rintro e w2 ⟨rfl, hb⟩; have HP2 := Aside0.mk (HP0.out.below hb); clear hb))
  have HU0 := Aside0.mk (TuAt.new HP2.out ⟨qc, qs, p.clock, p.full⟩)
  clear HP2 HP0 HIS HTN
  generalize w2.alloc (.cells #[.string qc, .int .i64 qs, .int .i64 p.clock, .int .i64 p.full] 33) = w3 at *
  generalize w2.heap.size = B at *
  obtain ⟨c0, c1, c2, c3, d0, d1, d2, d3, _⟩ := HU0.out
  go_upto_region 5 with (first
    | (go_at_call 18; refine (HA.out _ (HT.out _ HU0.out.bel)).mono ?_; rintro e w4 ⟨v4, rfl, hv, hb⟩; have HU4 := Aside0.mk (HU0.out.below hb); have HV4 := Aside0.mk hv; clear hb hv c0 c1 c2 c3 d0 d1 d2 d3 HU0))
  obtain ⟨c0, c1, c2, c3, d0, d1, d2, d3, _⟩ := HU4.out
  go_upto_region 6 with (first
    | (go_at_call 18; refine (HB.out _ (HT.out _ HU4.out.bel)).mono ?_; rintro e w5 ⟨v5, rfl, hv, hb⟩; have HU5 := Aside0.mk (HU4.out.below hb); have HV4' := Aside0.mk (HV4.out.below hb); have HV5 := Aside0.mk hv; clear hb hv c0 c1 c2 c3 d0 d1 d2 d3 HU4 HV4))
  obtain ⟨A4, k4, hv4, hr4⟩ := HV4'.out.reads
  obtain ⟨A5, k5, hv5, hr5⟩ := HV5.out.reads
  subst hv4 hv5
  have hlen : ((l.map flip).reverse).length = l.length := by simp
  rw [hlen]
  have HR4 := Aside0.mk hr4
  have HR5 := Aside0.mk hr5
  have hl90 : (l.length : Int) ≤ 90 := by have := HL.out; omega
  clear hr4 hr5 HV4' HV5
  go_wp2_with fail
  go_loopg [8] l.length (fun gg s8 wr => ∃ i : Nat, s8 = .int .i64 i ∧ i + gg = l.length ∧ Aside0 (TuAt w wr p ⟨qc, qs, p.clock, p.full⟩ B) ∧ Aside0 (ReadsI wr A4 l ∧ ReadsI wr A5 (l.map flip).reverse))
  case atStart => exact ⟨0, rfl, by omega, HU5, ⟨HR4.out, HR5.out⟩⟩
  case round =>
    obtain ⟨i, rfl, hi, HU, HRR⟩ := hrel
    clear HU5 HR4 HR5
    cases gk with
    | zero =>
      have hn : ¬ ((i : Int) < (l.length : Int)) := by omega
      clear hi HRR
      obtain ⟨c0, c1, c2, c3, d0, d1, d2, d3, _⟩ := HU.out
      go_upto_region 13 with fail
      go_region_held3 (fun W => W.cell? ⟨w.heap.size, 0, none⟩ = some (.string p.cells) ∧ W.cell? ⟨w.heap.size, 1, none⟩ = some (.int .i64 p.side) ∧ W.cell? ⟨w.heap.size, 2, none⟩ = some (.int .i64 p.clock) ∧ W.cell? ⟨w.heap.size, 3, none⟩ = some (.int .i64 p.full) ∧ W.cell? ⟨B, 0, none⟩ = some (.string qc) ∧ W.cell? ⟨B, 1, none⟩ = some (.int .i64 qs) ∧ W.cell? ⟨B, 2, none⟩ = some (.int .i64 p.clock) ∧ W.cell? ⟨B, 3, none⟩ = some (.int .i64 p.full)) (go_keep)
        (first
          | (go_at_call 31; (with_reducible refine (HWP.out _ (HT.out _ (by first | exact HU.out.bel | exact HU.out.drew.bel))).mono ?_); rintro e w6 ⟨rfl, hb⟩; have HU6 : Aside0 (TuAt w w6 p ⟨qc, qs, p.clock, p.full⟩ B) := ⟨by first | exact HU.out.below hb | exact HU.out.drew.below hb⟩; clear hb HU c0 c1 c2 c3 d0 d1 d2 d3; obtain ⟨c0, c1, c2, c3, d0, d1, d2, d3, _⟩ := HU6.out)
          | (go_at_call 31; (with_reducible refine (HWQ.out _ (HT.out _ (by first | exact HU.out.bel | exact HU.out.drew.bel))).mono ?_); rintro e w6 ⟨rfl, hb⟩; have HU6 : Aside0 (TuAt w w6 p ⟨qc, qs, p.clock, p.full⟩ B) := ⟨by first | exact HU.out.below hb | exact HU.out.drew.below hb⟩; clear hb HU c0 c1 c2 c3 d0 d1 d2 d3; obtain ⟨c0, c1, c2, c3, d0, d1, d2, d3, _⟩ := HU6.out)
          | (go_at_call 31; (with_reducible refine (HWP.out _ (HT.out _ (by first | exact HU6.out.bel | exact HU6.out.drew.bel))).mono ?_); rintro e w7 ⟨rfl, hb⟩; have HU7 : Aside0 (TuAt w w7 p ⟨qc, qs, p.clock, p.full⟩ B) := ⟨by first | exact HU6.out.below hb | exact HU6.out.drew.below hb⟩; clear hb HU6 c0 c1 c2 c3 d0 d1 d2 d3; obtain ⟨c0, c1, c2, c3, d0, d1, d2, d3, _⟩ := HU7.out)
          | (go_at_call 31; (with_reducible refine (HWQ.out _ (HT.out _ (by first | exact HU6.out.bel | exact HU6.out.drew.bel))).mono ?_); rintro e w7 ⟨rfl, hb⟩; have HU7 : Aside0 (TuAt w w7 p ⟨qc, qs, p.clock, p.full⟩ B) := ⟨by first | exact HU6.out.below hb | exact HU6.out.drew.below hb⟩; clear hb HU6 c0 c1 c2 c3 d0 d1 d2 d3; obtain ⟨c0, c1, c2, c3, d0, d1, d2, d3, _⟩ := HU7.out))
      all_goals
        have g1 : (f1.length : Int) ≤ 90 := by have := HFL1.out; omega
        have g2 : (f2.length : Int) ≤ 90 := by have := HFL2.out; omega
        cases hk1 : (f1.length == 1)
        case false =>
          have t1 : ((f1.length : Int) != 1) = true := by rw [bne_iff_ne]; have := beq_eq_false_iff_ne.1 hk1; omega
          clear hk1 HF2
          go_wp2_with (first | (go_at_call 32; (with_reducible refine (HF1.out _).mono ?_); rintro e w8 ⟨v8, rfl, hv, hb⟩; have HU8 : Aside0 (TuAt w w8 p ⟨qc, qs, p.clock, p.full⟩ B) := ⟨by first | exact HU7.out.below hb | exact HU7.out.drew.below hb⟩; obtain ⟨A8, k8, hv8⟩ := hv.form; subst hv8; clear hb hv c0 c1 c2 c3 d0 d1 d2 d3; obtain ⟨c0, c1, c2, c3, d0, d1, d2, d3, _⟩ := HU8.out) | (go_at_call 16; refine (HLV.out _ (HT.out _ HU8.out.bel)).mono ?_; rintro e w10 ⟨rfl, hb⟩; have HX := Aside0.mk (HU8.out.bel.trans (hb.mono HU8.out.bel.size)); clear hb))
          go_ret
          exact ⟨rfl, HX.out⟩
        case true =>
        have t1 : ((f1.length : Int) != 1) = false := by rw [bne_eq_false_iff_eq]; have := beq_iff_eq.1 hk1; omega
        cases hk2 : (f2.length == 1)
        case false =>
          have t2 : ((f2.length : Int) != 1) = true := by rw [bne_iff_ne]; have := beq_eq_false_iff_ne.1 hk2; omega
          clear hk1 hk2
          go_wp2_with (first | (go_at_call 32; (with_reducible refine (HF1.out _).mono ?_); rintro e w8 ⟨v8, rfl, hv, hb⟩; have HU8 : Aside0 (TuAt w w8 p ⟨qc, qs, p.clock, p.full⟩ B) := ⟨by first | exact HU7.out.below hb | exact HU7.out.drew.below hb⟩; obtain ⟨A8, k8, hv8⟩ := hv.form; subst hv8; clear hb hv c0 c1 c2 c3 d0 d1 d2 d3; obtain ⟨c0, c1, c2, c3, d0, d1, d2, d3, _⟩ := HU8.out) | (go_at_call 32; (with_reducible refine (HF2.out _).mono ?_); rintro e w9 ⟨v9, rfl, hv, hb⟩; have HU9 : Aside0 (TuAt w w9 p ⟨qc, qs, p.clock, p.full⟩ B) := ⟨HU8.out.below hb⟩; obtain ⟨A9, k9, hv9⟩ := hv.form; subst hv9; clear hb hv HU8 c0 c1 c2 c3 d0 d1 d2 d3; obtain ⟨c0, c1, c2, c3, d0, d1, d2, d3, _⟩ := HU9.out) | (go_at_call 16; refine (HLV.out _ (HT.out _ HU9.out.bel)).mono ?_; rintro e w10 ⟨rfl, hb⟩; have HX := Aside0.mk (HU9.out.bel.trans (hb.mono HU9.out.bel.size)); clear hb))
          go_ret
          exact ⟨rfl, HX.out⟩
        case true =>
        have t2 : ((f2.length : Int) != 1) = false := by rw [bne_eq_false_iff_eq]; have := beq_iff_eq.1 hk2; omega
        obtain ⟨q1, q2⟩ := HEQ.out (beq_iff_eq.1 hk1) (beq_iff_eq.1 hk2)
        clear hk1 hk2
        go_upto_region 17 with (first | (go_at_call 32; (with_reducible refine (HF1.out _).mono ?_); rintro e w8 ⟨v8, rfl, hv, hb⟩; have HU8 : Aside0 (TuAt w w8 p ⟨qc, qs, p.clock, p.full⟩ B) := ⟨by first | exact HU7.out.below hb | exact HU7.out.drew.below hb⟩; obtain ⟨A8, k8, hv8⟩ := hv.form; subst hv8; clear hb hv c0 c1 c2 c3 d0 d1 d2 d3; obtain ⟨c0, c1, c2, c3, d0, d1, d2, d3, _⟩ := HU8.out) | (go_at_call 32; (with_reducible refine (HF2.out _).mono ?_); rintro e w9 ⟨v9, rfl, hv, hb⟩; have HU9 : Aside0 (TuAt w w9 p ⟨qc, qs, p.clock, p.full⟩ B) := ⟨HU8.out.below hb⟩; obtain ⟨A9, k9, hv9⟩ := hv.form; subst hv9; clear hb hv HU8 c0 c1 c2 c3 d0 d1 d2 d3; obtain ⟨c0, c1, c2, c3, d0, d1, d2, d3, _⟩ := HU9.out))
        rw [q1] at HI1
        rw [q2] at HC1
        clear q1 q2 HF1 HF2 HWP HWQ HA HB
        generalize inS p.cells 0 = r1 at *
        generalize facS p.cells = r2 at *
        go_region_held3 (fun W => W.cell? ⟨w.heap.size, 0, none⟩ = some (.string p.cells) ∧ W.cell? ⟨w.heap.size, 1, none⟩ = some (.int .i64 p.side) ∧ W.cell? ⟨w.heap.size, 2, none⟩ = some (.int .i64 p.clock) ∧ W.cell? ⟨w.heap.size, 3, none⟩ = some (.int .i64 p.full) ∧ W.cell? ⟨B, 0, none⟩ = some (.string qc) ∧ W.cell? ⟨B, 1, none⟩ = some (.int .i64 qs) ∧ W.cell? ⟨B, 2, none⟩ = some (.int .i64 p.clock) ∧ W.cell? ⟨B, 3, none⟩ = some (.int .i64 p.full)) (go_keep)
          (first
            | (go_at_call 24; (with_reducible refine (HI0.out _ (HT.out _ (by first | exact HU9.out.bel | exact HU9.out.drew.bel))).mono ?_); rintro e w10 ⟨rfl, hb⟩; have HU10 : Aside0 (TuAt w w10 p ⟨qc, qs, p.clock, p.full⟩ B) := ⟨by first | exact HU9.out.below hb | exact HU9.out.drew.below hb⟩; clear hb HU9 c0 c1 c2 c3 d0 d1 d2 d3; obtain ⟨c0, c1, c2, c3, d0, d1, d2, d3, _⟩ := HU10.out)
            | (go_at_call 24; (with_reducible refine (HI1.out _ (HT.out _ (by first | exact HU10.out.bel | exact HU10.out.drew.bel))).mono ?_); rintro e w11 ⟨rfl, hb⟩; have HU11 : Aside0 (TuAt w w11 p ⟨qc, qs, p.clock, p.full⟩ B) := ⟨by first | exact HU10.out.below hb | exact HU10.out.drew.below hb⟩; clear hb HU10 c0 c1 c2 c3 d0 d1 d2 d3; obtain ⟨c0, c1, c2, c3, d0, d1, d2, d3, _⟩ := HU11.out)
            | (go_at_call 22; (with_reducible refine (HC0.out _ (HT.out _ (by first | exact HU11.out.bel | exact HU11.out.drew.bel))).mono ?_); rintro e w12 ⟨rfl, hb⟩; have HU12 : Aside0 (TuAt w w12 p ⟨qc, qs, p.clock, p.full⟩ B) := ⟨by first | exact HU11.out.below hb | exact HU11.out.drew.below hb⟩; clear hb HU11 c0 c1 c2 c3 d0 d1 d2 d3; obtain ⟨c0, c1, c2, c3, d0, d1, d2, d3, _⟩ := HU12.out)
            | (go_at_call 22; (with_reducible refine (HC1.out _ (HT.out _ (by first | exact HU12.out.bel | exact HU12.out.drew.bel))).mono ?_); rintro e w13 ⟨rfl, hb⟩; have HU13 : Aside0 (TuAt w w13 p ⟨qc, qs, p.clock, p.full⟩ B) := ⟨by first | exact HU12.out.below hb | exact HU12.out.drew.below hb⟩; clear hb HU12 c0 c1 c2 c3 d0 d1 d2 d3; obtain ⟨c0, c1, c2, c3, d0, d1, d2, d3, _⟩ := HU13.out)
            | (go_at_call 16; (with_reducible refine (HLV.out _ (HT.out _ (by first | exact HU13.out.bel | exact HU13.out.drew.bel))).mono ?_); rintro e w14 ⟨rfl, hb⟩; have HU14 : Aside0 (TuAt w w14 p ⟨qc, qs, p.clock, p.full⟩ B) := ⟨by first | exact HU13.out.below hb | exact HU13.out.drew.below hb⟩; clear hb HU13 c0 c1 c2 c3 d0 d1 d2 d3; obtain ⟨c0, c1, c2, c3, d0, d1, d2, d3, _⟩ := HU14.out))
        all_goals
          go_wp2_with fail
          go_ret
          first | exact ⟨rfl, HU14.out.bel⟩ | exact ⟨rfl, HU14.out.drew.bel⟩
    | succ g =>
      have hn : ((i : Int) < (l.length : Int)) := by omega
      have hn0 : 0 ≤ (i : Int) := by omega
      have HI := Aside0.mk (show i + 1 + g = l.length by omega)
      have hil : i < l.length := by omega
      have hj : l.length - 1 - i < ((l.map flip).reverse).length := by rw [hlen]; omega
      obtain ⟨g4, o4, hA4, r4⟩ := HRR.out.1.out.resolve_left (by rintro rfl; simp at hil)
      obtain ⟨g5, o5, hA5, r5⟩ := HRR.out.2.out.resolve_left (by intro h; rw [h] at hj; simp at hj)
      subst hA4 hA5
      have e4 := r4 i hil
      have e5 := r5 (l.length - 1 - i) hj
      rw [rev_flip hil hj] at e5
      have hx := HLT.out _ (List.getElem_mem hil)
      have hfl : (flip l[i] : Int) = 89 - ((l[i] : Nat) : Int) := by unfold flip; omega
      have hjj : ((l.length : Int) - 1 - (i : Int)).toNat = l.length - 1 - i := by omega
      have hj0 : 0 ≤ (l.length : Int) - 1 - (i : Int) := by omega
      have hj1 : (l.length : Int) - 1 - (i : Int) < (l.length : Int) := by omega
      have q1 : IntKind.i64.wrap ((l.length : Int) - 1) = (l.length : Int) - 1 := by rw [IntKind.wrap_i64]; omega
      have q2 : IntKind.i64.wrap ((l.length : Int) - 1 - (i : Int)) = (l.length : Int) - 1 - (i : Int) := by rw [IntKind.wrap_i64]; omega
      generalize flip l[i] = y at *
      generalize l[i] = x at *
      have q3 : IntKind.i64.wrap (89 - (x : Int)) = (y : Int) := by rw [IntKind.wrap_i64]; omega
      have q4 : wrap64 (89 - (x : Int)) = (y : Int) := by unfold wrap64; omega
      have q5 : 89 - (x : Int) = (y : Int) := by omega
      clear hi r4 r5 hfl hx hil hj
      go_wp2_with fail
      go_quiet (fail)
      go_wp2_with fail
      go_roundg g
      case measure => omega
      case rel => exact ⟨i + 1, rfl, HI.out, ⟨HU.out.below (pw_below_drewN (Below.refl _ _) _)⟩, ⟨HRR.out.1.below (pw_below_drewN (Below.refl _ _) _), HRR.out.2.below (pw_below_drewN (Below.refl _ _) _)⟩⟩
end Go.Proofs.YtllbkppdkldmiaaGreatDoor.K
