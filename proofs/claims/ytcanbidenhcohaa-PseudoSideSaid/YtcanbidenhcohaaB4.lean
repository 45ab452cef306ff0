/- Walks and plain laws that several statements lean on, joined: no statement of the seat is proved here. -/
import Derived.Test.YtcanbidenhcohaaB1
import Derived.Test.YtcanbidenhcohaaB3

/- Plain law: seen from the other side a piece reaches the same. -/
namespace Go.Proofs.Ytcanbidenhcohaa.Sp

theorem sideV (x : Nat) : sideN x = -1 ∨ sideN x = 0 ∨ sideN x = 1 := by
  unfold sideN
  cases isRed x with
  | true => simp
  | false => cases isBlack x <;> simp
/-- A piece of the other side. -/
def swapN (x : Nat) : Nat := if isRed x then x + 32 else if isBlack x then x - 32 else x
/-- A board from the other side. -/
def turnC (c : Nat → Nat) (n : Nat) : Nat := swapN (c (89 - n))

theorem swap_facts : ∀ x ∈ letters, swapN x ∈ letters ∧ (swapN x = 46 ↔ x = 46) ∧ kindN (swapN x) = kindN x ∧ sideN (swapN x) = (if sideN x = -1 then -1 else 1 - sideN x) ∧ swapN (swapN x) = x := by decide
theorem may_turn : ∀ x ∈ letters, ∀ n : Fin 90, mayN (swapN x) (89 - n.1) = mayN x n.1 := by decide +kernel
theorem away_turn : ∀ a b : Fin 90, away ((89 - a.1) % 9) ((89 - b.1) % 9) = away (a.1 % 9) (b.1 % 9) ∧ away ((89 - a.1) / 9) ((89 - b.1) / 9) = away (a.1 / 9) (b.1 / 9) ∧ ((89 - a.1) / 9 = (89 - b.1) / 9 ↔ a.1 / 9 = b.1 / 9) ∧ ((89 - a.1) % 9 = (89 - b.1) % 9 ↔ a.1 % 9 = b.1 % 9) := by decide +kernel
theorem betwL_turn : ∀ a b : Fin 90, betwL (89 - a.1) (89 - b.1) = ((betwL a.1 b.1).map (fun i => 89 - i)).reverse ∧ (∀ i ∈ betwL a.1 b.1, i < 90) := by decide +kernel
theorem betwL_sym : ∀ a b : Fin 90, betwL a.1 b.1 = betwL b.1 a.1 := by decide +kernel
theorem leg_turn : ∀ a b : Fin 90, ((away (a.1 % 9) (b.1 % 9) == 1 && away (a.1 / 9) (b.1 / 9) == 2) || (away (a.1 % 9) (b.1 % 9) == 2 && away (a.1 / 9) (b.1 / 9) == 1)) = true → legN (89 - a.1) (89 - b.1) = 89 - legN a.1 b.1 ∧ legN a.1 b.1 < 90 := by decide +kernel
theorem mid_turn : ∀ a b : Fin 90, away (a.1 % 9) (b.1 % 9) = 2 → away (a.1 / 9) (b.1 / 9) = 2 → ((89 - a.1) + (89 - b.1)) / 2 = 89 - (a.1 + b.1) / 2 ∧ (a.1 + b.1) / 2 < 90 := by decide +kernel
theorem pawn_turn : ∀ s : Fin 2, ∀ a b : Fin 90, pawnN (1 - ((s.1 : Nat) : Int)) (89 - a.1) (89 - b.1) = pawnN ((s.1 : Nat) : Int) a.1 b.1 := by decide +kernel

theorem turnC_at (c : Nat → Nat) {n : Nat} (hn : n < 90) : turnC c (89 - n) = swapN (c n) := by
  unfold turnC
  congr 2
  omega
section
variable {c : Nat → Nat} (hc : ∀ n, n < 90 → c n ∈ letters)
include hc
theorem turnC_letters {n : Nat} (hn : n < 90) : turnC c n ∈ letters := by
  unfold turnC
  exact (swap_facts _ (hc _ (by omega))).1
theorem turnC_empty {n : Nat} (hn : n < 90) : (turnC c (89 - n) == 46) = (c n == 46) := by
  rw [turnC_at c hn, Bool.eq_iff_iff, beq_iff_eq, beq_iff_eq]
  exact (swap_facts _ (hc n hn)).2.1
theorem betw_turn {a b : Nat} (ha : a < 90) (hb : b < 90) : betwN (turnC c) (89 - a) (89 - b) = betwN c a b := by
  obtain ⟨_, _, h3, h4⟩ := away_turn ⟨a, ha⟩ ⟨b, hb⟩
  obtain ⟨h5, h6⟩ := betwL_turn ⟨a, ha⟩ ⟨b, hb⟩
  simp only at h3 h4 h5 h6
  unfold betwN
  rw [h5]
  have he : (89 - a = 89 - b) ↔ a = b := by omega
  by_cases hab : a = b
  · rw [if_pos hab, if_pos (he.2 hab)]
  rw [if_neg hab, if_neg (fun h => hab (he.1 h))]
  by_cases hline : a / 9 = b / 9 ∨ a % 9 = b % 9
  · rw [if_pos hline, if_pos (hline.imp h3.2 h4.2)]
    rw [List.countP_reverse, List.countP_map]
    congr 1
    apply List.countP_congr
    intro i hi
    simp only [Function.comp]
    have := turnC_empty hc (h6 i hi)
    rw [bne, this, bne]
  · rw [if_neg hline, if_neg (fun h => hline (h.imp h3.1 h4.1))]
omit hc in
theorem betw_sym (c : Nat → Nat) {a b : Nat} (ha : a < 90) (hb : b < 90) : betwN c a b = betwN c b a := by
  unfold betwN
  rw [betwL_sym ⟨a, ha⟩ ⟨b, hb⟩]
  by_cases hab : a = b
  · rw [if_pos hab, if_pos hab.symm]
  · rw [if_neg hab, if_neg (fun h : b = a => hab h.symm)]
    by_cases hline : a / 9 = b / 9 ∨ a % 9 = b % 9
    · rw [if_pos hline, if_pos (hline.imp Eq.symm Eq.symm)]
    · rw [if_neg hline, if_neg (fun h => hline (h.imp Eq.symm Eq.symm))]
theorem can_turn {a b : Nat} (ha : a < 90) (hb : b < 90) (hs : 0 ≤ sideN (c a)) : canN (turnC c) (89 - a) (89 - b) = canN c a b := by
  obtain ⟨f1, f2, f3, f4, f5⟩ := swap_facts _ (hc a ha)
  obtain ⟨w1, w2, _, _⟩ := away_turn ⟨a, ha⟩ ⟨b, hb⟩
  have hm := may_turn _ (hc a ha) ⟨b, hb⟩
  have hl := leg_turn ⟨a, ha⟩ ⟨b, hb⟩
  have hmid := mid_turn ⟨a, ha⟩ ⟨b, hb⟩
  simp only at w1 w2 hm hl hmid
  unfold canN horseN
  rw [turnC_at c ha, f3, w1, w2, hm, betw_turn hc ha hb, turnC_empty hc hb]
  have hbn : (turnC c (89 - b) != 46) = (c b != 46) := by rw [bne, turnC_empty hc hb, bne]
  rw [hbn]
  by_cases k1 : kindN (c a) = 75
  · rw [if_pos k1, if_pos k1]
  rw [if_neg k1, if_neg k1]
  by_cases k2 : kindN (c a) = 65
  · rw [if_pos k2, if_pos k2]
  rw [if_neg k2, if_neg k2]
  by_cases k3 : kindN (c a) = 66
  · rw [if_pos k3, if_pos k3]
    by_cases e1 : away (a % 9) (b % 9) = 2
    · by_cases e2 : away (a / 9) (b / 9) = 2
      · obtain ⟨m1, m2⟩ := hmid e1 e2
        rw [m1, turnC_empty hc m2]
      · rw [show (away (a / 9) (b / 9) == 2) = false from beq_eq_false_iff_ne.2 e2]; simp
    · rw [show (away (a % 9) (b % 9) == 2) = false from beq_eq_false_iff_ne.2 e1]; simp
  rw [if_neg k3, if_neg k3]
  by_cases k4 : kindN (c a) = 78
  · rw [if_pos k4, if_pos k4]
    cases hp : ((away (a % 9) (b % 9) == 1 && away (a / 9) (b / 9) == 2) || (away (a % 9) (b % 9) == 2 && away (a / 9) (b / 9) == 1)) with
    | false => simp
    | true =>
      obtain ⟨m1, m2⟩ := hl hp
      rw [m1, turnC_empty hc m2]
  rw [if_neg k4, if_neg k4]
  by_cases k5 : kindN (c a) = 82
  · rw [if_pos k5, if_pos k5]
  rw [if_neg k5, if_neg k5]
  by_cases k6 : kindN (c a) = 67
  · rw [if_pos k6, if_pos k6]
  rw [if_neg k6, if_neg k6, f4]
  have hside : sideN (c a) = 0 ∨ sideN (c a) = 1 := by
    have := sideV (c a)
    omega
  rw [if_neg (by omega)]
  rcases hside with h | h <;> rw [h]
  · exact pawn_turn 0 ⟨a, ha⟩ ⟨b, hb⟩
  · exact pawn_turn 1 ⟨a, ha⟩ ⟨b, hb⟩
theorem fast_turn {a b : Nat} (ha : a < 90) (hb : b < 90) : fastN (turnC c) (89 - a) (89 - b) = fastN c a b := by
  obtain ⟨_, _, _, fa, _⟩ := swap_facts _ (hc a ha)
  obtain ⟨_, _, _, fb, _⟩ := swap_facts _ (hc b hb)
  have sa := sideV (c a)
  have sb := sideV (c b)
  unfold fastN
  by_cases h : 0 ≤ sideN (c a)
  · rw [can_turn hc ha hb h, turnC_at c ha, turnC_at c hb, fa, fb]
    rcases sa with sa | sa | sa <;> rcases sb with sb | sb | sb <;> rw [sa, sb] <;> simp <;> omega
  · rw [turnC_at c ha, fa, if_pos (by omega)]
    simp [h]
end
end Go.Proofs.Ytcanbidenhcohaa.Sp

/- Plain law: a board with one square changed: what stands between, going back, and the pawn's few squares. -/
namespace Go.Proofs.Ytcanbidenhcohaa.Sp

theorem fast_congr {c d : Nat → Nat} (h : ∀ n, n < 90 → c n = d n) {a b : Nat} (ha : a < 90) (hb : b < 90) (hl : ∀ n, n < 90 → c n ∈ letters) : fastN c a b = fastN d a b := by
  have e1 := h a ha
  have e2 := h b hb
  have hbt : betwN c a b = betwN d a b := by
    unfold betwN
    have : ∀ i ∈ betwL a b, i < 90 := (betwL_turn ⟨a, ha⟩ ⟨b, hb⟩).2
    rw [List.countP_congr (p := fun i => c i != 46) (q := fun i => d i != 46) (fun i hi => by rw [h i (this i hi)])]
  have hleg := leg_turn ⟨a, ha⟩ ⟨b, hb⟩
  have hmid := mid_turn ⟨a, ha⟩ ⟨b, hb⟩
  simp only at hleg hmid
  unfold fastN canN horseN
  rw [hbt, e1, e2]
  congr 1
  cases hp : ((away (a % 9) (b % 9) == 1 && away (a / 9) (b / 9) == 2) || (away (a % 9) (b % 9) == 2 && away (a / 9) (b / 9) == 1)) with
  | true =>
    rw [h _ (hleg hp).2]
    by_cases q1 : away (a % 9) (b % 9) = 2
    · by_cases q2 : away (a / 9) (b / 9) = 2
      · rw [h _ (hmid q1 q2).2]
      · rw [show (away (a / 9) (b / 9) == 2) = false from beq_eq_false_iff_ne.2 q2]; simp
    · rw [show (away (a % 9) (b % 9) == 2) = false from beq_eq_false_iff_ne.2 q1]; simp
  | false =>
    simp only [Bool.false_and]
    by_cases q1 : away (a % 9) (b % 9) = 2
    · by_cases q2 : away (a / 9) (b / 9) = 2
      · rw [h _ (hmid q1 q2).2]
      · rw [show (away (a / 9) (b / 9) == 2) = false from beq_eq_false_iff_ne.2 q2]; simp
    · rw [show (away (a % 9) (b % 9) == 2) = false from beq_eq_false_iff_ne.2 q1]; simp
theorem betw_congr {c d : Nat → Nat} (h : ∀ n, n < 90 → c n = d n) {a b : Nat} (ha : a < 90) (hb : b < 90) : betwN c a b = betwN d a b := by
  unfold betwN
  have : ∀ i ∈ betwL a b, i < 90 := (betwL_turn ⟨a, ha⟩ ⟨b, hb⟩).2
  rw [List.countP_congr (p := fun i => c i != 46) (q := fun i => d i != 46) (fun i hi => by rw [h i (this i hi)])]
theorem betwL_in : ∀ a b : Fin 90, ∀ i ∈ betwL a.1 b.1, i ≠ a.1 ∧ i ≠ b.1 ∧ i < 90 := by decide +kernel
theorem betw_line : ∀ a b : Nat, ∀ c : Nat → Nat, 0 ≤ betwN c a b → a ≠ b := by
  intro a b c h e
  rw [betwN, if_pos e] at h
  omega
theorem mid_in : ∀ a b : Fin 90, away (a.1 % 9) (b.1 % 9) = 2 → away (a.1 / 9) (b.1 / 9) = 2 → (a.1 + b.1) / 2 ≠ a.1 ∧ (a.1 + b.1) / 2 ≠ b.1 ∧ (a.1 + b.1) / 2 < 90 := by decide +kernel
theorem away_sym (a b : Nat) : away a b = away b a := by unfold away; split <;> split <;> omega
/-- A board with x on n. -/
def putC (c : Nat → Nat) (n x : Nat) : Nat → Nat := fun i => if i = n then x else c i
theorem putC_at (c : Nat → Nat) (n x : Nat) : putC c n x n = x := if_pos rfl
theorem putC_ne (c : Nat → Nat) (n x : Nat) {i : Nat} (h : i ≠ n) : putC c n x i = c i := if_neg h
theorem putC_letters {c : Nat → Nat} {n x : Nat} (hc : ∀ i, i < 90 → c i ∈ letters) (hx : x ∈ letters) : ∀ i, i < 90 → putC c n x i ∈ letters := by
  intro i hi
  unfold putC
  split
  · exact hx
  · exact hc i hi
theorem betw_inner {c d : Nat → Nat} {a b : Nat} (ha : a < 90) (hb : b < 90) (h : ∀ n, n ≠ a → n ≠ b → c n = d n) : betwN c a b = betwN d a b := by
  unfold betwN
  rw [List.countP_congr (p := fun i => c i != 46) (q := fun i => d i != 46) (fun i hi => by
    obtain ⟨h1, h2, _⟩ := betwL_in ⟨a, ha⟩ ⟨b, hb⟩ i hi
    rw [h i h1 h2])]
theorem fast_back {c : Nat → Nat} {a b : Nat} (ha : a < 90) (hb : b < 90) (h : fastN c a b = true) (hk : kindN (c a) ≠ 78 ∧ kindN (c a) ≠ 80) (hk7 : ∀ x ∈ letters, 0 ≤ sideN x → kindN x ∈ [75, 65, 66, 78, 82, 67, 80]) (hl : c a ∈ letters) (h67 : kindN (c a) = 67 → c b = 46)
    (hm : mayN (c a) a = true) : fastN (putC (putC c a 46) b (c a)) b a = true := by
  unfold fastN at h
  simp only [Bool.and_eq_true, decide_eq_true_eq, bne_iff_ne, ne_eq] at h
  obtain ⟨⟨h1, h2⟩, h3⟩ := h
  have hab : a ≠ b := fun e => h2 (by rw [e])
  have hk' := hk7 _ hl h1
  unfold fastN
  have eb : putC (putC c a 46) b (c a) b = c a := putC_at _ _ _
  have ea : putC (putC c a 46) b (c a) a = 46 := by rw [putC_ne _ _ _ hab, putC_at]
  have hbet : betwN (putC (putC c a 46) b (c a)) b a = betwN c a b := by
    rw [betw_sym _ hb ha]
    exact betw_inner ha hb (fun n n1 n2 => by rw [putC_ne _ _ _ n2, putC_ne _ _ _ n1])
  rw [eb, ea, decide_eq_true h1, show (sideN 46 != sideN (c a)) = true from by rw [show sideN 46 = -1 from rfl, bne_iff_ne]; omega]
  simp only [Bool.true_and]
  unfold canN at h3 ⊢
  rw [eb, hbet, ea]
  rw [away_sym (b % 9), away_sym (b / 9)]
  obtain ⟨k1, k2⟩ := hk
  by_cases q75 : kindN (c a) = 75
  · rw [if_pos q75] at h3 ⊢
    simp only [Bool.and_eq_true] at h3 ⊢
    exact ⟨h3.1, hm⟩
  rw [if_neg q75] at h3 ⊢
  by_cases q65 : kindN (c a) = 65
  · rw [if_pos q65] at h3 ⊢
    simp only [Bool.and_eq_true] at h3 ⊢
    exact ⟨h3.1, hm⟩
  rw [if_neg q65] at h3 ⊢
  by_cases q66 : kindN (c a) = 66
  · rw [if_pos q66] at h3 ⊢
    simp only [Bool.and_eq_true, beq_iff_eq] at h3 ⊢
    obtain ⟨⟨⟨g1, g2⟩, g3⟩, g4⟩ := h3
    obtain ⟨m1, m2, _⟩ := mid_in ⟨a, ha⟩ ⟨b, hb⟩ g1 g2
    simp only at m1 m2
    refine ⟨⟨⟨g1, g2⟩, hm⟩, ?_⟩
    rw [show (b + a) / 2 = (a + b) / 2 from by rw [Nat.add_comm], putC_ne _ _ _ m2, putC_ne _ _ _ m1]
    exact g4
  rw [if_neg q66, if_neg k1] at h3 ⊢
  by_cases q82 : kindN (c a) = 82
  · rw [if_pos q82] at h3 ⊢
    exact h3
  rw [if_neg q82] at h3 ⊢
  have q67 : kindN (c a) = 67 := by
    simp only [List.mem_cons, List.not_mem_nil, or_false] at hk'
    omega
  rw [if_pos q67] at h3 ⊢
  have := h67 q67
  simp [this] at h3
  simp [h3]
theorem kinds7 : ∀ x ∈ letters, 0 ≤ sideN x → kindN x ∈ [75, 65, 66, 78, 82, 67, 80] := by decide
theorem letter_side : ∀ x ∈ letters, (x = 46 ∧ sideN x = -1) ∨ (x ≠ 46 ∧ sideN x = 0) ∨ (x ≠ 46 ∧ sideN x = 1) := by decide
/-- A red chariot, a red cannon on a. -/
theorem fast_chariot (c : Nat → Nat) {a b : Nat} (ha : a < 90) (hb : b < 90) (hl : c b ∈ letters) (hab : a ≠ b) : fastN (putC c a 82) a b = (sideN (c b) != 0 && betwN c a b == 0) := by
  unfold fastN canN
  rw [putC_at, putC_ne _ _ _ (Ne.symm hab), betw_inner (d := c) ha hb (fun n n1 n2 => putC_ne _ _ _ n1)]
  rfl
theorem fast_cannon (c : Nat → Nat) {a b : Nat} (ha : a < 90) (hb : b < 90) (hl : c b ∈ letters) (hab : a ≠ b) : fastN (putC c a 67) a b = (sideN (c b) != 0 && ((betwN c a b == 0 && c b == 46) || (betwN c a b == 1 && c b != 46))) := by
  unfold fastN canN
  rw [putC_at, putC_ne _ _ _ (Ne.symm hab), betw_inner (d := c) ha hb (fun n n1 n2 => putC_ne _ _ _ n1)]
  rfl
theorem pawn_few : ∀ s : Fin 2, ∀ a : Fin 90, ((List.range 90).filter (pawnN ((s.1 : Nat) : Int) a.1)).length ≤ 3 := by decide +kernel
theorem pawn_ahead : ∀ s : Fin 2, ∀ a b : Fin 90, pawnN ((s.1 : Nat) : Int) a.1 b.1 = true → (if s.1 = 1 then b.1 / 9 + 1 = a.1 / 9 ∧ b.1 % 9 = a.1 % 9 else b.1 / 9 = a.1 / 9 + 1 ∧ b.1 % 9 = a.1 % 9) ∨ (b.1 / 9 = a.1 / 9 ∧ overN a.1 ((s.1 : Nat) : Int) = true) := by decide +kernel
end Go.Proofs.Ytcanbidenhcohaa.Sp

/- Plain law: texts of bytes; a position from the other side. -/
namespace Go.Proofs.Ytcanbidenhcohaa.K
open Go.RowKit Go.Lib Go.Proofs.YtcanbidenhcohaaW.PrintWords Go.Proofs.Ytcanbidenhcohaa.Sp
set_option linter.unusedVariables false
/-- A text of bytes. -/
def strB (l : List Nat) : ByteArray := ⟨(l.map UInt8.ofNat).toArray⟩
theorem strB_size (l : List Nat) : (strB l).size = l.length := by simp [strB, ByteArray.size]
theorem cel_strB (l : List Nat) (n : Nat) (hn : n < l.length) (hl : ∀ x ∈ l, x < 256) : cel (strB l) n = l[n] := by
  have h : n < (strB l).size := by rw [strB_size]; exact hn
  rw [← cel_get _ n h]
  have e : (strB l)[n]'h = UInt8.ofNat (l[n]) := by
    show ((l.map UInt8.ofNat).toArray)[n]'(by simpa using hn) = _
    simp
  rw [e]
  have := hl _ (List.getElem_mem hn)
  simp [Nat.mod_eq_of_lt this]
theorem strB_snoc (l : List Nat) (x : Nat) : strB l ++ strOfNums [(x : Int)] = strB (l ++ [x]) := by
  apply ByteArray.ext
  rw [ByteArray.data_append]
  simp [strB, strOfNums]
theorem letter_lt : ∀ x ∈ letters, x < 256 := by decide
theorem isBoard_strB (l : List Nat) (hl : l.length = 90) (h : ∀ x ∈ l, x ∈ letters) : isBoard (strB l) = true := by
  have hcb : ∀ x ∈ letters, cellB x = true := by decide
  refine (board_iff _ (by rw [strB_size]; exact hl)).2 fun n hn => ?_
  rw [cel_strB l n (by omega) (fun x hx => letter_lt x (h x hx))]
  exact hcb _ (h _ (List.getElem_mem _))
/-- The text of a cell function. -/
def boardB (c : Nat → Nat) : ByteArray := strB ((List.range 90).map c)
theorem boardB_is (c : Nat → Nat) (h : ∀ n, n < 90 → c n ∈ letters) : isBoard (boardB c) = true := isBoard_strB _ (by simp) (by intro x hx; obtain ⟨n, hn, rfl⟩ := List.mem_map.1 hx; exact h n (List.mem_range.1 hn))
theorem boardB_cel (c : Nat → Nat) (h : ∀ n, n < 90 → c n ∈ letters) {n : Nat} (hn : n < 90) : cel (boardB c) n = c n := by
  unfold boardB
  rw [cel_strB _ n (by simpa using hn) (by intro x hx; obtain ⟨m, hm, rfl⟩ := List.mem_map.1 hx; exact letter_lt _ (h m (List.mem_range.1 hm)))]
  simp
def turnS (s : ByteArray) : ByteArray := if isBoard s = true then boardB (turnC (cel s)) else ⟨#[]⟩
theorem turnS_is {s : ByteArray} (hs : isBoard s = true) : isBoard (turnS s) = true ∧ ∀ n, n < 90 → cel (turnS s) n = turnC (cel s) n := by
  have hc : ∀ n, n < 90 → turnC (cel s) n ∈ letters := fun n hn => turnC_letters (fun m hm => board_cell hs hm) hn
  unfold turnS
  rw [if_pos hs]
  exact ⟨boardB_is _ hc, fun n hn => boardB_cel _ hc hn⟩
def turnP (p : Pos) : Pos := ⟨turnS p.cells, 1 - p.side, p.clock, p.full⟩
/-! ### numbers turned round -/
def flip (n : Nat) : Nat := 89 - n
def flipM (m : Mv) : Mv := (89 - m.1, 89 - m.2)
theorem range_flip : (List.range 90).reverse.map flip = List.range 90 := by decide
theorem filter_flip {P Q : Nat → Bool} (h : ∀ b, b < 90 → Q (89 - b) = P b) : (List.range 90).filter Q = (((List.range 90).filter P).map flip).reverse := by
  conv => lhs; rw [← range_flip]
  rw [List.filter_map, ← List.map_reverse, ← List.filter_reverse]
  congr 1
  refine List.filter_congr fun b hb => ?_
  have := List.mem_range.1 (List.mem_reverse.1 hb)
  exact h b this
theorem flatMap_flip {α : Type} {F G : Nat → List α} {g : α → α} (h : ∀ a, a < 90 → G (89 - a) = ((F a).map g).reverse) : (List.range 90).flatMap G = (((List.range 90).flatMap F).map g).reverse := by
  conv => lhs; rw [← range_flip]
  rw [List.flatMap_map, List.map_flatMap, List.reverse_flatMap]
  have e : ∀ l : List Nat, (∀ a ∈ l, a < 90) → l.flatMap (fun a => G (flip a)) = l.flatMap (List.reverse ∘ fun a => (F a).map g) := by
    intro l
    induction l with
    | nil => intro _; rfl
    | cons a l ih =>
      intro hl
      rw [List.flatMap_cons, List.flatMap_cons, ih (fun x hx => hl x (List.mem_cons_of_mem _ hx)), Function.comp, ← h a (hl a List.mem_cons_self)]
      rfl
  exact e _ (fun a ha => List.mem_range.1 (List.mem_reverse.1 ha))
theorem count_flip {P Q : Nat → Bool} (h : ∀ b, b < 90 → Q (89 - b) = P b) : (List.range 90).countP Q = (List.range 90).countP P := by
  rw [List.countP_eq_length_filter, List.countP_eq_length_filter, filter_flip h, List.length_reverse, List.length_map]
/-! ### the position from the other side -/
theorem swap14 : ∀ x ∈ pieces14, swapN x ∈ pieces14 ∧ x ∈ letters ∧ swapN (swapN x) = x ∧ kindN (swapN x) = kindN x ∧ mostN (swapN x) = mostN x := by decide
theorem check_turn {p : Pos} (hck : checkP p = 0) : checkP (turnP p) = 0 := by
  obtain ⟨hao, hbad, hri⟩ := checkP_parts hck
  obtain ⟨hbd, hsd, h1, h2, h3, h4⟩ := argOk_yes hao
  obtain ⟨ht, hc⟩ := turnS_is hbd
  have hl : ∀ n, n < 90 → cel p.cells n ∈ letters := fun n hn => board_cell hbd hn
  refine checkP_mk ?_ ?_ ?_
  · unfold argOk turnP
    simp only
    rw [ht]
    simp only [Bool.true_and, decide_eq_true_eq]
    omega
  · intro x hx
    obtain ⟨m1, m2, m3, m4, m5⟩ := swap14 x hx
    have e : cntX (turnS p.cells) 90 x = cntX p.cells 90 (swapN x) := by
      unfold cntX
      refine count_flip (fun b hb => ?_)
      rw [hc _ (by omega), turnC_at _ hb, Bool.eq_iff_iff, beq_iff_eq, beq_iff_eq]
      constructor
      · intro h; rw [← h]; exact ((swap_facts _ (hl b hb)).2.2.2.2).symm
      · intro h; rw [h]; exact m3
    have := hbad _ m1
    unfold badX at this ⊢
    simp only [turnP]
    have e2 : cntX (turnP p).cells 90 x = cntX p.cells 90 (swapN x) := e
    rw [m4, m5] at this
    rw [← e] at this
    exact this
  · intro n hn
    simp only [turnP]
    rw [hc n hn]
    have hfl : 89 - (89 - n) = n := by omega
    rcases hri (89 - n) (by omega) with h | h
    · left
      unfold turnC
      rw [h]; rfl
    · right
      have := may_turn _ (hl (89 - n) (by omega)) ⟨89 - n, by omega⟩
      simp only [hfl] at this
      unfold turnC
      rw [this]
      exact h
theorem gath_turn {p : Pos} (hck : checkP p = 0) : gathP (turnP p) (fun _ => true) = ((gathP p (fun _ => true)).map flipM).reverse := by
  obtain ⟨hbd, hsd, _⟩ := argOk_yes (checkP_parts hck).1
  obtain ⟨ht, hc⟩ := turnS_is hbd
  have hl : ∀ n, n < 90 → cel p.cells n ∈ letters := fun n hn => board_cell hbd hn
  unfold gathP
  rw [if_pos hck, if_pos (check_turn hck)]
  unfold gathM
  refine flatMap_flip (fun a ha => ?_)
  unfold fromM
  simp only [turnP]
  have hsa : (sideN (cel (turnS p.cells) (89 - a)) = 1 - p.side) ↔ (sideN (cel p.cells a) = p.side) := by
    rw [hc _ (by omega), turnC_at _ ha, (swap_facts _ (hl a ha)).2.2.2.1]
    have := sideV (cel p.cells a)
    split <;> omega
  by_cases hs : sideN (cel p.cells a) = p.side
  · rw [if_pos hs]
    refine Eq.trans (if_pos (hsa.2 hs)) ?_
    have e : ∀ l : List Nat, l.filter (fun b => (fun _ => true) (cel (turnS p.cells) b)) = l := fun l => by simp
    have e' : ∀ l : List Nat, l.filter (fun b => (fun _ => true) (cel p.cells b)) = l := fun l => by simp
    rw [e, e']
    unfold allN
    rw [filter_flip (P := fastN (cel p.cells) a) (fun b hb => ?_)]
    · rw [List.map_reverse, List.map_map, List.map_map]
      rfl
    · rw [fast_congr (d := turnC (cel p.cells)) (fun n hn => hc n hn) (by omega) (by omega) (fun n hn => by rw [hc n hn]; exact turnC_letters hl hn)]
      exact fast_turn hl ha hb
  · rw [if_neg hs]
    exact Eq.trans (if_neg (fun h => hs (hsa.1 h))) rfl
theorem gath_side {p : Pos} {m : Mv} (hck : checkP p = 0) (hm : m ∈ gathP p (fun _ => true)) : sideN (cel p.cells m.1) = p.side ∧ m ∉ gathP ⟨p.cells, 1 - p.side, p.clock, p.full⟩ (fun _ => true) := by
  obtain ⟨_, hsd, _⟩ := argOk_yes (checkP_parts hck).1
  have h := (gath_mem hm).2.2.2.1
  refine ⟨h, fun hm2 => ?_⟩
  have h2 := (gath_mem hm2).2.2.2.1
  simp only at h2
  omega
end Go.Proofs.Ytcanbidenhcohaa.K

/- Walk: the reference's Check. -/
namespace Go.Proofs.Ytcanbidenhcohaa.K
open Go.RowKit Go.Lib Go.Proofs.YtcanbidenhcohaaW.PrintWords Go.Proofs.Ytcanbidenhcohaa.Sp
set_option linter.unusedVariables false
set_option linter.unusedSimpArgs false
attribute [local go_sem] cel_get   -- for this text's walks alone
/-- The letters' bytes. -/
theorem letter_at : ∀ i, i < 14 → cel { data := #[75, 65, 66, 78, 82, 67, 80, 107, 97, 98, 110, 114, 99, 112] } i = pieces14.getD i 0 := by decide
/-- A position's box, whose cells alone are read. -/
structure CkAt (w0 W : World) (s : ByteArray) : Prop where
  c0 : W.cell? ⟨w0.heap.size, 0, none⟩ = some (.string s)
  bel : Below w0.heap.size w0 W
theorem CkAt.below {w0 W W' : World} {s : ByteArray} (h : CkAt w0 W s) (hb : Below W.heap.size W W') : CkAt w0 W' s := ⟨below_cell hb _ _ _ h.c0, h.bel.trans (hb.mono h.bel.size)⟩
theorem CkAt.drew {w0 W : World} {s : ByteArray} (h : CkAt w0 W s) : CkAt w0 W.drew s := h.below (pw_below_drewN (Below.refl _ _) 1)
set_option maxRecDepth 100000 in
set_option maxHeartbeats 4000000 in
theorem rcheck_bad (p : Pos) (hmx : p.cells.size ≤ maxLen) (ha : argOk p = false) (w : World) : Calls Try.prog 36 #[posV p] w fun e w' => e = .returned (.int .i64 (checkP p)) ∧ Below w.heap.size w w' := by
  have HI := Aside0.mk (fun W => ris_c p.cells hmx W)
  have hu := Try.underlying38
  rw [show checkP p = 1 by unfold checkP; rw [if_pos ha]]
  have HN := Aside0.mk (argOk_no ha)
  clear ha hmx
  generalize isBoard p.cells = bb at HI HN
  have HB := Aside0.mk (below_alloc (Below.refl w.heap.size w) (.cells #[.string p.cells, .int .i64 p.side, .int .i64 p.clock, .int .i64 p.full] 38))
  go_enter Try.func36, Try.ntmps36
  go_upto_region 3 with (go_at_call 47; refine (HI.out _).mono ?_; rintro e w1 ⟨rfl, rfl⟩)
  all_goals
    first
    | (go_ret; exact ⟨rfl, HB.out⟩)
    | (exfalso
       have hn := HN.out
       clear HN HB HI
       simp_all
       done)
    | (exfalso
       have hn := HN.out
       clear HN HB HI
       simp_all
       omega)
theorem right_all {s : ByteArray} {n m : Nat} (h : n ≤ m) (hr : rightX s n = false) : rightX s m = false := by
  unfold rightX at *
  rw [List.all_eq_false] at *
  obtain ⟨x, hx, hq⟩ := hr
  exact ⟨x, List.mem_range.2 (by have := List.mem_range.1 hx; omega), hq⟩
set_option maxRecDepth 100000 in
set_option maxHeartbeats 4000000 in
theorem rcheck_ok (p : Pos) (ha : argOk p = true) (w : World) : Calls Try.prog 36 #[posV p] w fun e w' => e = .returned (.int .i64 (checkP p)) ∧ Below w.heap.size w w' := by
  obtain ⟨hbd, hsd, hc1, hc2, hf1, hf2⟩ := argOk_yes ha
  have hmx : p.cells.size ≤ maxLen := by rw [board_size hbd]; unfold maxLen; omega
  have HI := Aside0.mk (fun W => ris_c p.cells hmx W)
  have hu := Try.underlying38
  have HP := Aside0.mk (show checkP p = if pieces14.any (badX p.cells) = true then 3 else if rightX p.cells 90 = false then 2 else 0 by unfold checkP; rw [ha]; rfl)
  have HSZ := Aside0.mk (board_size hbd)
  have HBD := Aside0.mk hbd
  rw [hbd] at HI
  clear ha hbd
  have hs0 : 0 ≤ p.side := by omega
  have hs1 : p.side ≤ 1 := by omega
  clear hsd
  have HCK := Aside0.mk (show CkAt w (w.alloc (.cells #[.string p.cells, .int .i64 p.side, .int .i64 p.clock, .int .i64 p.full] 38)) p.cells from ⟨by simp [World.cell?_alloc_at], below_alloc (Below.refl _ _) _⟩)
  go_enter Try.func36, Try.ntmps36
  go_upto_region 3 with (go_at_call 47; refine (HI.out _).mono ?_; rintro e w1 ⟨rfl, rfl⟩)
  generalize w.alloc (.cells #[.string p.cells, .int .i64 p.side, .int .i64 p.clock, .int .i64 p.full] 38) = W0 at *
  clear hs0 hs1 hc1 hc2 hf1 hf2
  go_wp2_with fail
  go_loopg [4] 14 (fun gg s4 wr => ∃ i : Nat, s4 = .int .i64 i ∧ i + gg = 14 ∧ Aside0 (CkAt w wr p.cells) ∧ Aside0 (∀ j, j < i → badX p.cells (pieces14.getD j 0) = false))
  case atStart => exact ⟨0, rfl, by omega, HCK, ⟨fun j hj => by omega⟩⟩
  case round =>
    clear HCK
    obtain ⟨i, rfl, hi, HC, HBX⟩ := hrel
    cases gk with
    | zero =>
      have hn : ¬ ((i : Int) < 14) := by omega
      have hi14 : i = 14 := by omega
      subst hi14
      have HNA := Aside0.mk (none14 p.cells HBX.out)
      clear hi HBX
      go_wp2_with fail
      go_loopg [6] 90 (fun gg s6 wr => ∃ i : Nat, s6 = .int .i64 i ∧ i + gg = 90 ∧ Aside0 (CkAt w wr p.cells) ∧ Aside0 (rightX p.cells i = true))
      case atStart => exact ⟨0, rfl, by omega, HC, ⟨rfl⟩⟩
      case round =>
        clear HC
        obtain ⟨j, rfl, hj, HC, HRT⟩ := hrel
        cases gk with
        | zero =>
          have hn2 : ¬ ((j : Int) < 90) := by omega
          have HJ := Aside0.mk (show j = 90 by omega)
          clear hj
          go_wp2_with fail
          go_ret
          refine ⟨ret_int ?_, HC.out.bel⟩
          rw [HP.out, HNA.out, ← HJ.out, HRT.out]; simp
        | succ g =>
          have hn2 : (j : Int) < 90 := by omega
          have HJ := Aside0.mk (show j + 1 + g = 90 by omega)
          have c0 := HC.out.c0
          have hsz : (j : Int) < p.cells.size := by rw [HSZ.out]; omega
          have hle := board_cell HBD.out (show j < 90 by omega)
          have h2 : ∀ x ∈ letters, x ≠ 46 → 0 ≤ sideN x := by decide
          have HM := Aside0.mk (fun (h : cel p.cells j ≠ 46) W => rmay_c (cel p.cells j) (h2 _ hle h) j (by omega) W)
          have hrx := rightX_succ p.cells j
          rw [HRT.out, Bool.true_and] at hrx
          have HF90 := Aside0.mk (fun (h : rightX p.cells (j + 1) = false) => right_all (show j + 1 ≤ 90 by omega) h)
          clear h2 hle
          generalize hx : cel p.cells j = x at *
          have q := bne46 x
          have HX := Aside0.mk hx
          generalize mayN x j = mm at *
          have HRX := Aside0.mk hrx
          clear hrx hj
          cases h46 : (x != 46) <;> cases mm
          all_goals
            rw [h46] at q
            have H46 := Aside0.mk h46
            clear h46
            go_wp2_with (go_at_call 67; refine (HM.out (by have := H46.out; simpa using this) _).mono ?_; rintro e w3 ⟨rfl, rfl⟩)
            first
            | (go_ret
               refine ⟨ret_int ?_, HC.out.bel⟩
               rw [HP.out, HNA.out, HF90.out (by rw [HRX.out]; have := H46.out; simp_all)]; rfl)
            | (go_roundg g
               case measure => have := HJ.out; omega
               case rel => exact ⟨j + 1, by go_num, by have := HJ.out; omega, HC, ⟨by rw [HRX.out]; have := H46.out; simp_all⟩⟩)
    | succ g =>
      have hn : (i : Int) < 14 := by omega
      have hi14 : i < 14 := by omega
      have HG := Aside0.mk (show i + 1 + g = 14 by omega)
      have hx := piece_lt i hi14
      have hl := letter_at i hi14
      have HFI := Aside0.mk (fun W => rfind_c p.cells (by rw [HSZ.out]; unfold maxLen; omega) (pieces14.getD i 0) hx W)
      have HMO := Aside0.mk (fun W => rmost_c (pieces14.getD i 0) hx W)
      have HKI := Aside0.mk (fun W => rkind_c (pieces14.getD i 0) hx W)
      have hbx : badX p.cells (pieces14.getD i 0) = (decide (mostN (pieces14.getD i 0) < cntX p.cells 90 (pieces14.getD i 0)) || (kindN (pieces14.getD i 0) == 75 && cntX p.cells 90 (pieces14.getD i 0) != 1)) := rfl
      have hfl : (findN p.cells (pieces14.getD i 0)).length = cntX p.cells 90 (pieces14.getD i 0) := by unfold findN; rw [HBD.out, if_pos rfl, findL_len]
      have hcle := cntX_le p.cells 90 (pieces14.getD i 0)
      have hkq := kindN_q (pieces14.getD i 0)
      have HANY := Aside0.mk (any14 p.cells i hi14)
      generalize hxx : pieces14.getD i 0 = x at *
      generalize cntX p.cells 90 x = cc at *
      generalize mostN x = m at *
      generalize kindN x = k at *
      have HBE := Aside0.mk hbx
      have HFL := Aside0.mk hfl
      have hcq : ((cc : Int) != 1) = (cc != 1) := by rw [Bool.eq_iff_iff, bne_iff_ne, bne_iff_ne]; omega
      have HXX := Aside0.mk hxx
      clear hbx hxx hi hfl
      have c0 := HC.out.c0
      go_wp2_with fail
      go_region_held3 (fun W => W.cell? ⟨w.heap.size, 0, none⟩ = some (.string p.cells)) (go_keep)
        (first
          | (go_at_call 34; refine (HFI.out _).mono ?_; rintro e w2 ⟨v, rfl, hv, hb⟩; obtain ⟨A, cap, rfl⟩ := hv.form; have HC2 := Aside0.mk (HC.out.drew.below hb); have c0' := HC2.out.c0; rw [HFL.out]; clear hv hb))
      have HC3 := HC2
      clear HC HC2 c0 c0'
      generalize findN p.cells x = fl at *
      cases b1 : decide (m < cc)
      all_goals cases b2 : (k == 75)
      all_goals cases b3 : (cc != 1)
      all_goals
        rw [b2] at hkq
        rw [b3] at hcq
        have HB123 : Aside0 (badX p.cells x = (decide (m < cc) || (k == 75 && cc != 1))) := HBE
        rw [b1, b2, b3] at HB123
        clear b2 b3
        go_wp2_with (first | (go_at_call 66; refine (HMO.out _).mono ?_; rintro e w3 ⟨rfl, rfl⟩) | (go_at_call 33; refine (HKI.out _).mono ?_; rintro e w4 ⟨rfl, rfl⟩))
        first
        | (go_ret
           refine ⟨ret_int ?_, ?_⟩
           · rw [HP.out, if_pos (HANY.out (by rw [HB123.out]; rfl))]
           · exact HC3.out.bel)
        | (go_roundg g
           case measure => have := HG.out; omega
           case rel => exact ⟨i + 1, by go_num, by have := HG.out; omega, HC3, ⟨fun j hj => by
             by_cases h : j = i
             · subst h; rw [HXX.out, HB123.out]; rfl
             · exact HBX.out j (by omega)⟩⟩)
theorem rcheck_c (p : Pos) (hmx : p.cells.size ≤ maxLen) (w : World) : Calls Try.prog 36 #[posV p] w fun e w' => e = .returned (.int .i64 (checkP p)) ∧ Below w.heap.size w w' := by
  cases ha : argOk p
  · exact rcheck_bad p hmx ha w
  · exact rcheck_ok p ha w
end Go.Proofs.Ytcanbidenhcohaa.K

/- Walks: the reference's Has, Of, Turn. -/
namespace Go.Proofs.Ytcanbidenhcohaa.K
open Go.RowKit Go.Lib Go.Proofs.YtcanbidenhcohaaW.PrintWords Go.Proofs.Ytcanbidenhcohaa.Sp
set_option linter.unusedVariables false
set_option linter.unusedSimpArgs false
attribute [local go_sem] cel_get   -- for this text's walks alone
set_option maxRecDepth 100000 in
set_option maxHeartbeats 2000000 in
theorem has_c (l : List Mv) (m : Mv) (hm : m ∉ l) (hl : l.length ≤ 8100) (B : Nat) (A : Option Addr) (cap : Nat) (w : World) (h : MvAt w B (.slice A l.length cap) l) :
    Calls Try.prog 39 #[.slice A l.length cap, .agg #[.int .i64 (m.1 : Int), .int .i64 (m.2 : Int)]] w fun e w' => e = .returned (.bool false) ∧ Below w.heap.size w w' := by
  have hu := Try.underlying42
  have HM := Aside0.mk hm
  have HX := Aside0.mk h
  have HLL := Aside0.mk hl
  obtain ⟨ma, mb⟩ := m
  simp only at HM ⊢
  clear hm h hl
  go_enter Try.func39, Try.ntmps39
  go_wp2_with fail
  have b0 : (w.alloc (.cells #[.int .i64 (ma : Int), .int .i64 (mb : Int)] 42)).cell? ⟨w.heap.size, 0, none⟩ = some (.int .i64 (ma : Int)) := by simp [World.cell?_alloc_at]
  have b1 : (w.alloc (.cells #[.int .i64 (ma : Int), .int .i64 (mb : Int)] 42)).cell? ⟨w.heap.size, 1, none⟩ = some (.int .i64 (mb : Int)) := by simp [World.cell?_alloc_at]
  have HX1 := Aside0.mk (HX.out.below (below_alloc (Below.refl _ _) (.cells #[.int .i64 (ma : Int), .int .i64 (mb : Int)] 42)))
  have HW := Aside0.mk (below_alloc (Below.refl w.heap.size w) (.cells #[.int .i64 (ma : Int), .int .i64 (mb : Int)] 42))
  have HB := Aside0.mk (And.intro b0 b1)
  clear b0 b1 HX
  generalize w.alloc (.cells #[.int .i64 (ma : Int), .int .i64 (mb : Int)] 42) = W1 at *
  go_loopg [5] l.length (fun gg s5 wr => ∃ i : Nat, s5 = .int .i64 i ∧ i + gg = l.length ∧ Aside0 (MvAt wr B (.slice A l.length cap) l) ∧ Aside0 (wr.cell? ⟨w.heap.size, 0, none⟩ = some (.int .i64 (ma : Int)) ∧ wr.cell? ⟨w.heap.size, 1, none⟩ = some (.int .i64 (mb : Int))) ∧ Aside0 (Below w.heap.size w wr))
  case atStart => exact ⟨0, rfl, by omega, HX1, HB, HW⟩
  case round =>
    clear HX1 HB HW
    obtain ⟨i, rfl, hi, HX, HB, HW⟩ := hrel
    cases gk with
    | zero =>
      have hn : ¬ ((i : Int) < (l.length : Int)) := by omega
      clear hi
      go_wp2_with fail
      go_ret
      exact ⟨rfl, HW.out⟩
    | succ g =>
      have hn : (i : Int) < (l.length : Int) := by omega
      have hil : i < l.length := by omega
      have hib : (i : Int) ≤ 8100 := by have := HLL.out; omega
      have HI := Aside0.mk (show i + 1 + g = l.length by omega)
      obtain ⟨g1, cap1', hA1, _, hg1, hx1⟩ := HX.out.at (fun h => by rw [h] at hil; simp at hil)
      simp only [Value.slice.injEq, true_and] at hA1
      obtain ⟨rfl, rfl⟩ := hA1
      obtain ⟨x0, x1⟩ := hx1 i hil
      clear hx1 hi
      have hne : l[i] ≠ (ma, mb) := fun h => HM.out (h ▸ List.getElem_mem hil)
      generalize l[i] = m at *
      obtain ⟨la, lb⟩ := m
      simp only at x0 x1
      obtain ⟨y0, y1⟩ := HB.out
      have q1 : ((la : Int) == (ma : Int)) = (la == ma) := by rw [Bool.eq_iff_iff, beq_iff_eq, beq_iff_eq]; omega
      have q2 : ((lb : Int) == (mb : Int)) = (lb == mb) := by rw [Bool.eq_iff_iff, beq_iff_eq, beq_iff_eq]; omega
      have hor : (la == ma) = false ∨ (lb == mb) = false := by
        rw [beq_eq_false_iff_ne, beq_eq_false_iff_ne]
        by_cases h1 : la = ma
        · right; intro h2; exact hne (by rw [h1, h2])
        · exact .inl h1
      clear hne hil
      go_wp2_with fail
      cases h1 : (la == ma) <;> cases h2 : (lb == mb)
      all_goals
        rw [h1] at q1 hor
        rw [h2] at q2 hor
        first
        | (exfalso; simp at hor; done)
        | (clear hor
           go_quiet (fail)
           go_wp2_with fail
           go_roundg g
           case measure => omega
           case rel => exact ⟨i + 1, rfl, HI.out, ⟨HX.out.below (pw_below_drewN (Below.refl _ _) _)⟩, HB, ⟨pw_below_drewN HW.out _⟩⟩)
theorem rof_c (k : Nat) (hk : k < 256) (side : Int) (x : Nat) (h : (if side = 1 then (k : Int) - 65 + 97 else k) = (x : Int)) (hr : side = 1 → 65 ≤ k ∧ k ≤ 90) (w : World) :
    Calls Try.prog 53 #[.int .u8 (k : Int), .int .i64 side] w fun e w' => e = .returned (.int .u8 (x : Int)) ∧ w' = w := by
  by_cases h1 : side = 1
  · rw [if_pos h1] at h
    obtain ⟨h2, h3⟩ := hr h1
    have q : (side == 1) = true := by rw [h1]; rfl
    have e1 : ((k : Int) - 65) % 256 = (k : Int) - 65 := by omega
    have e2 : ((k : Int) - 65 + 97) % 256 = (x : Int) := by omega
    clear h1 hr h hk
    go_enter Try.func53, Try.ntmps53
    go_wp2_with fail
    go_ret
    exact ⟨ret_int (by omega), rfl⟩
  · rw [if_neg h1] at h
    have q : (side == 1) = false := by rw [beq_eq_false_iff_ne]; exact h1
    clear h1 hr
    go_enter Try.func53, Try.ntmps53
    go_wp2_with fail
    go_ret
    exact ⟨ret_int h, rfl⟩
theorem turn_byte : ∀ x ∈ letters, (0 ≤ sideN x → (if 1 - sideN x = 1 then ((kindN x : Nat) : Int) - 65 + 97 else kindN x) = ((swapN x : Nat) : Int) ∧ (1 - sideN x = 1 → 65 ≤ kindN x ∧ kindN x ≤ 90)) ∧ (sideN x < 0 → swapN x = x) := by decide
theorem one_byte (x : Nat) (W : World) : (convert 61 9 (.slice (some ⟨W.heap.size, 0, none⟩) 1 1)).run Try.prog (W.alloc (.cells #[.int .u8 (x : Int)] 5)) = .ok (.string (strOfNums [(x : Int)])) (W.alloc (.cells #[.int .u8 (x : Int)] 5)) := by
  have h : BytesAt (W.alloc (.cells #[.int .u8 (x : Int)] 5)) W.heap.size [(x : Int)] := by
    intro i hi
    obtain rfl : i = 0 := by simp at hi; exact hi
    simp [World.cell?_alloc_at]
  exact bytes_string h 61 Try.underlying61
set_option maxRecDepth 100000 in
set_option maxHeartbeats 2000000 in
theorem rturn_c (s : ByteArray) (hs : isBoard s = true) (w : World) : Calls Try.prog 21 #[.string s] w fun e w' => e = .returned (.string (turnS s)) ∧ Below w.heap.size w w' := by
  have hz := board_size hs
  have HIS := Aside0.mk (fun W => ris_c s (by rw [hz]; unfold maxLen; omega) W)
  rw [hs] at HIS
  have HSZ := Aside0.mk hz
  have HLT := Aside0.mk (fun n (hn : n < 90) => board_cell hs hn)
  have HT := Aside0.mk (show turnS s = strB ((List.range 90).map (turnC (cel s))) by unfold turnS; rw [if_pos hs]; rfl)
  clear hs hz
  generalize turnS s = ts at *
  go_enter Try.func21, Try.ntmps21
  go_wp2_with (go_at_call 47; refine (HIS.out _).mono ?_; rintro e w1 ⟨rfl, rfl⟩)
  go_loopg [3, 4, 5] 90 (fun gg s3 s4 _ wr => ∃ (m : Nat) (acc : ByteArray), m = gg ∧ m ≤ 90 ∧ s3 = .string acc ∧ s4 = .int .i64 ((m : Int) - 1) ∧ Aside0 (acc = strB ((List.range (90 - m)).map (turnC (cel s)))) ∧ Aside0 (Below w1.heap.size w1 wr))
  case atStart => exact ⟨90, strB [], rfl, by omega, rfl, rfl, ⟨rfl⟩, ⟨Below.refl _ _⟩⟩
  case round =>
    obtain ⟨m, acc, rfl, hm, rfl, rfl, HACC, HB⟩ := hrel
    cases m with
    | zero =>
      have hn : ¬ (0 ≤ ((0 : Nat) : Int) - 1) := by omega
      go_wp2_with fail
      go_ret
      refine ⟨?_, HB.out⟩
      show Ending.returned (.string acc) = _
      rw [HT.out, HACC.out]
    | succ g =>
      have hg : ((g + 1 : Nat) : Int) - 1 = (g : Int) := by omega
      rw [hg]
      have hn : 0 ≤ (g : Int) := by omega
      have hsz : (g : Int) < (s.size : Int) := by rw [HSZ.out]; omega
      have hle := HLT.out g (by omega)
      have hstep : (List.range (90 - g)).map (turnC (cel s)) = (List.range (90 - (g + 1))).map (turnC (cel s)) ++ [swapN (cel s g)] := by
        rw [show 90 - g = (90 - (g + 1)) + 1 from by omega, List.range_succ, List.map_append]
        congr 1
        simp only [List.map_cons, List.map_nil]
        congr 1
        have := turnC_at (cel s) (n := g) (by omega)
        rw [show 89 - g = 90 - (g + 1) from by omega] at this
        exact this
      have hst2 : strB ((List.range (90 - g)).map (turnC (cel s))) = strB ((List.range (90 - (g + 1))).map (turnC (cel s))) ++ strOfNums [(swapN (cel s g) : Int)] := by rw [strB_snoc, hstep]
      rw [← HACC.out] at hst2
      have HST := Aside0.mk hst2
      have hbd : acc.size ≤ 90 := by rw [HACC.out, strB_size]; simp; omega
      obtain ⟨b1, b2⟩ := turn_byte _ hle
      have hsl := sideN_le (cel s g)
      have hsw : swapN (cel s g) < 256 := letter_lt _ (swap_facts _ hle).1
      have HS := Aside0.mk (fun W => rside_c (cel s g) (cel_lt s g) W)
      have HK := Aside0.mk (fun W => rkind_c (cel s g) (cel_lt s g) W)
      have hkl : kindN (cel s g) < 256 := by have := cel_lt s g; unfold kindN; split <;> (try split) <;> omega
      have HO := Aside0.mk (fun (h : 0 ≤ sideN (cel s g)) W => rof_c (kindN (cel s g)) hkl (1 - sideN (cel s g)) (swapN (cel s g)) (b1 h).1 (b1 h).2 W)
      have HG := Aside0.mk hm
      generalize hx : swapN (cel s g) = y at *
      have kc := one_byte y
      have hsn : (strOfNums [(y : Int)]).size = 1 := by simp [strOfNums, ByteArray.size]
      clear hstep hst2 hle hg hm hkl b1
      by_cases h0 : 0 ≤ sideN (cel s g)
      · have HO1 := Aside0.mk (HO.out h0)
        have s0 : 0 ≤ sideN (cel s g) := h0
        clear HO h0 b2
        generalize kindN (cel s g) = kd at *
        generalize sideN (cel s g) = sd at *
        generalize hxx : cel s g = xx at *
        go_wp2_with (first | (go_at_call 38; refine (HS.out _).mono ?_; rintro e w2 ⟨rfl, rfl⟩) | (go_at_call 33; refine (HK.out _).mono ?_; rintro e w2 ⟨rfl, rfl⟩) | (go_at_call 53; refine (HO1.out _).mono ?_; rintro e w2 ⟨rfl, rfl⟩) | (simp only [kc]))
        go_roundg g
        case measure => omega
        case rel => exact ⟨g, _, rfl, by have := HG.out; omega, rfl, by rw [show wrap64 ((g : Int) - 1) = (g : Int) - 1 by have := HG.out; unfold wrap64; omega], ⟨HST.out.symm⟩, ⟨HB.out.trans (below_alloc (Below.refl _ _) _ |>.mono HB.out.size)⟩⟩
      · have s0 : ¬ (0 ≤ sideN (cel s g)) := h0
        obtain rfl : y = cel s g := b2 (by omega)
        clear HO h0 b2 HK hx
        generalize sideN (cel s g) = sd at *
        generalize hxx : cel s g = xx at *
        go_wp2_with (first | (go_at_call 38; refine (HS.out _).mono ?_; rintro e w2 ⟨rfl, rfl⟩) | (simp only [kc]))
        go_roundg g
        case measure => omega
        case rel => exact ⟨g, _, rfl, by have := HG.out; omega, rfl, by rw [show wrap64 ((g : Int) - 1) = (g : Int) - 1 by have := HG.out; unfold wrap64; omega], ⟨HST.out.symm⟩, ⟨HB.out.trans (below_alloc (Below.refl _ _) _ |>.mono HB.out.size)⟩⟩
end Go.Proofs.Ytcanbidenhcohaa.K

/- PseudoSide: the walk. -/
namespace Go.Proofs.Ytcanbidenhcohaa.K
open Go.RowKit Go.Lib Go.Proofs.YtcanbidenhcohaaW.PrintWords Go.Proofs.Ytcanbidenhcohaa.Sp
set_option linter.unusedVariables false
set_option linter.unusedSimpArgs false
attribute [local go_sem] cel_get   -- for this text's walks alone
set_option maxRecDepth 100000 in
set_option maxHeartbeats 4000000 in
theorem sideLaw (w : World) (p : Pos) (hmx : p.cells.size ≤ maxLen) : Calls Try.prog 11 #[posV p] w fun e w' => e = .returned (.bool true) ∧ Below w.heap.size w w' := by
  have HLV := Aside0.mk (fun W => live_c W)
  have hu := Try.underlying38
  have hu2 := Try.underlying42
  by_cases h200 : p.cells.size > 200
  · have h1 : (200 : Int) < (p.cells.size : Int) := by omega
    have HW0 := Aside0.mk (below_new (Below.refl w.heap.size w) (.cells #[.string p.cells, .int .i64 p.side, .int .i64 p.clock, .int .i64 p.full] 38))
    clear h200 hmx
    go_enter Try.func11, Try.ntmps11
    go_wp2_with (go_at_call 30; refine (HLV.out _).mono ?_; rintro e w1 ⟨rfl, hb⟩; have HW1 := Aside0.mk (below_go HW0.out hb); clear hb)
    go_ret
    exact ⟨rfl, HW1.out⟩
  have h1 : (p.cells.size : Int) ≤ 200 := by omega
  have HRC := Aside0.mk (fun W => rcheck_c p hmx W)
  clear h200 hmx
  have HB0 := Aside0.mk (BoxP.new w p)
  have HW0 := Aside0.mk (below_new (Below.refl w.heap.size w) (.cells #[.string p.cells, .int .i64 p.side, .int .i64 p.clock, .int .i64 p.full] 38))
  by_cases hck : checkP p = 0
  case neg =>
    have hne : (checkP p != 0) = true := by simpa using hck
    generalize checkP p = ck at *
    clear hck
    go_enter Try.func11, Try.ntmps11
    go_wp2_with (first | (go_at_call 36; refine (HRC.out _).mono ?_; rintro e w1 ⟨rfl, hb⟩; have HW1 := Aside0.mk (below_go HW0.out hb); clear hb) | (go_at_call 30; refine (HLV.out _).mono ?_; rintro e w2 ⟨rfl, hb⟩; have HW2 := Aside0.mk (below_go HW1.out hb); clear hb))
    go_ret
    exact ⟨rfl, HW2.out⟩
  have HM := Aside0.mk (fun W => moves_c p W)
  have HMQ := Aside0.mk (fun W => moves_c ⟨p.cells, 1 - p.side, p.clock, p.full⟩ W)
  have hargs := argOk_yes (checkP_parts hck).1
  have s0 : 0 ≤ p.side := by omega
  have s1 : p.side ≤ 1 := by omega
  have HSZ := Aside0.mk (board_size hargs.1)
  have HSI := Aside0.mk (fun m (h : m ∈ gathP p (fun _ => true)) => gath_side hck h)
  have HMEM := Aside0.mk (fun m (h : m ∈ gathP p (fun _ => true)) => gath_mem h)
  have HLL := Aside0.mk (gath_len p (fun _ => true))
  have HLK := Aside0.mk (gath_len ⟨p.cells, 1 - p.side, p.clock, p.full⟩ (fun _ => true))
  rw [hck] at HRC
  clear hck hargs
  generalize gathP p (fun _ => true) = l at *
  generalize gathP ⟨p.cells, 1 - p.side, p.clock, p.full⟩ (fun _ => true) = k at *
  go_enter Try.func11, Try.ntmps11
  go_wp2_with fail
  refine (HRC.out _).mono ?_
  rintro e w1 ⟨rfl, hb⟩
  have HB1 := Aside0.mk (HB0.out.below hb)
  have HW1 := Aside0.mk (below_go HW0.out hb)
  clear hb HB0 HW0
  obtain ⟨e0, e1, e2, e3⟩ := HB1.out
  go_wp2_with fail
  refine (HM.out _).mono ?_
  rintro e w2 ⟨v1, rfl, h2, hb⟩
  have HX := Aside0.mk (show OneAt w w2 p v1 l from ⟨HB1.out.below hb, h2.reads.lower HW1.out.size, below_go HW1.out hb⟩)
  clear h2 hb HB1 HW1 e0 e1 e2 e3
  obtain ⟨A1, cap1, rfl⟩ := HX.out.m1.form
  obtain ⟨e0, e1, e2, e3⟩ := HX.out.box
  have hlw : w.heap.size < w2.heap.size := World.block_lt_of_cell? _ _ e0
  go_wp2_with fail
  refine (HMQ.out _).mono ?_
  rintro e w3 ⟨v2, rfl, h3, hb⟩
  have HX0 := Aside0.mk (HX.out.below (below_alloc (Below.refl _ _) (.cells #[.string p.cells, .int .i64 (1 - p.side), .int .i64 p.clock, .int .i64 p.full] 38)))
  have HT := Aside0.mk (show TwoAt w w3 p (.slice A1 l.length cap1) v2 l k from ⟨HX0.out.box.below hb, HX0.out.m1.below hb, h3.reads.lower (by have := HX.out.bel.size; simp; omega), below_go HX0.out.bel hb⟩)
  clear h3 hb HX HX0 e0 e1 e2 e3 hlw
  obtain ⟨A2, cap2, rfl⟩ := HT.out.m2.form
  go_wp2_with fail
  have HX := HT
  clear HT
  go_loopg [6] l.length (fun gg s6 wr => ∃ i : Nat, s6 = .int .i64 i ∧ i + gg = l.length ∧ Aside0 (TwoAt w wr p (.slice A1 l.length cap1) (.slice A2 k.length cap2) l k))
  case atStart => exact ⟨0, rfl, by omega, HX⟩
  case round =>
    clear HX
    obtain ⟨i, rfl, hi, HX⟩ := hrel
    cases gk with
    | zero =>
      have hn : ¬ ((i : Int) < (l.length : Int)) := by omega
      clear hi
      go_wp2_with (go_at_call 30; refine (HLV.out _).mono ?_; rintro e w5 ⟨rfl, hb⟩; have HW5 := Aside0.mk (below_go HX.out.bel hb); clear hb)
      go_ret
      exact ⟨rfl, HW5.out⟩
    | succ g =>
      have hn : (i : Int) < (l.length : Int) := by omega
      have hil : i < l.length := by omega
      have hib : (i : Int) ≤ 8100 := by have := HLL.out; omega
      have HI := Aside0.mk (show i + 1 + g = l.length by omega)
      obtain ⟨hc0, ha90, hb90, _⟩ := HMEM.out _ (List.getElem_mem hil)
      obtain ⟨hsd, hnk⟩ := HSI.out _ (List.getElem_mem hil)
      obtain ⟨g1, cap1', hA1, _, hg1, hx1⟩ := HX.out.m1.at (fun h => by rw [h] at hil; simp at hil)
      simp only [Value.slice.injEq, true_and] at hA1
      obtain ⟨rfl, rfl⟩ := hA1
      obtain ⟨x0, x1⟩ := hx1 i hil
      clear hx1 hi
      have HHS := Aside0.mk (fun W (h : MvAt W w.heap.size (.slice A2 k.length cap2) k) => has_c k l[i] hnk HLK.out w.heap.size A2 cap2 W h)
      generalize hli : l[i] = m at *
      obtain ⟨ma, mb⟩ := m
      simp only at ha90 hb90 x0 x1 hsd HHS
      have hm0 : (ma : Int) < (p.cells.size : Int) := by rw [HSZ.out]; omega
      have HSD := Aside0.mk (fun W => rside_c (cel p.cells ma) (cel_lt _ _) W)
      rw [hsd] at HSD
      obtain ⟨e0, e1, e2, e3⟩ := HX.out.box
      clear e2 e3 hc0 ha90 hb90 hnk hil hsd hli
      go_wp2_with fail
      have HXD := Aside0.mk (HX.out.below (pw_below_drewN (Below.refl _ _) 1) : TwoAt w wr.drew p _ _ l k)
      clear HX
      go_region_held3 (fun W => W.cell? ⟨w.heap.size, 0, none⟩ = some (.string p.cells) ∧ W.cell? ⟨w.heap.size, 1, none⟩ = some (.int .i64 p.side) ∧ W.cell? ⟨g1, i * 2, none⟩ = some (.int .i64 (ma : Int)) ∧ W.cell? ⟨g1, i * 2 + 1, none⟩ = some (.int .i64 (mb : Int))) (go_keep)
        (first
          | (go_at_call 38; refine (HSD.out _).mono ?_; rintro e w4 ⟨rfl, rfl⟩)
          | (go_at_call 39; refine (HHS.out _ HXD.out.m2).mono ?_; rintro e w4 ⟨rfl, hb⟩; have HX4 := Aside0.mk (HXD.out.below hb); have y0 := below_cell hb _ _ _ x0; have y1 := below_cell hb _ _ _ x1; clear HXD hb e0 e1 x0 x1; obtain ⟨e0, e1, _, _⟩ := HX4.out.box))
      all_goals
        go_wp2_with fail
        go_roundg g
        case measure => omega
        case rel => exact ⟨i + 1, by go_num, by have := HI.out; omega, HX4⟩
end Go.Proofs.Ytcanbidenhcohaa.K
