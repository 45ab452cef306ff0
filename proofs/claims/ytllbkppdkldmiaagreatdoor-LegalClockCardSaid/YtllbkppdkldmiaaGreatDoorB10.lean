/- Walks and plain laws that several statements lean on, joined: no statement of the seat is proved here. -/
import Derived.Test.YtllbkppdkldmiaaGreatDoorB9

/- CheckTakes: plain law. -/
namespace Go.Proofs.YtllbkppdkldmiaaGreatDoor.K
open Go.RowKit Go.Lib Go.Proofs.YtllbkppdkldmiaaGreatDoorW.PrintWords Go.Proofs.YtllbkppdkldmiaaGreatDoor.Sp
set_option linter.unusedVariables false
theorem betwL_apart (a b : Nat) (ha : a < 90) (hb : b < 90) : ∀ i ∈ betwL a b, i ≠ b ∧ i ≠ a ∧ i < 90 := by
  intro i hi
  unfold betwL at hi
  have hm : Nat.min a b = min a b := rfl
  split at hi
  · obtain ⟨j, hj, rfl⟩ := List.mem_map.1 hi
    have := List.mem_range.1 hj
    unfold away at this
    rw [hm]
    split at this <;> omega
  · split at hi
    · obtain ⟨j, hj, rfl⟩ := List.mem_map.1 hi
      have := List.mem_range.1 hj
      unfold away at this
      rw [hm]
      split at this <;> omega
    · simp at hi
theorem betwN_apart {c d : Nat → Nat} {a b : Nat} (ha : a < 90) (hb : b < 90) (h : ∀ i, i < 90 → i ≠ b → c i = d i) : betwN c a b = betwN d a b := by
  have e : (betwL a b).countP (fun i => c i != 46) = (betwL a b).countP (fun i => d i != 46) :=
    List.countP_congr fun i hi => by rw [h i (betwL_apart a b ha hb i hi).2.2 (betwL_apart a b ha hb i hi).1]
  unfold betwN
  rw [e]
theorem leg_all : ∀ a b : Fin 90, ((away (a.1 % 9) (b.1 % 9) == 1 && away (a.1 / 9) (b.1 / 9) == 2) || (away (a.1 % 9) (b.1 % 9) == 2 && away (a.1 / 9) (b.1 / 9) == 1)) = true → legN a.1 b.1 ≠ b.1 ∧ legN a.1 b.1 < 90 := by decide +kernel
theorem mid_all : ∀ a b : Fin 90, away (a.1 % 9) (b.1 % 9) = 2 → (a.1 + b.1) / 2 ≠ b.1 := by decide +kernel
/-- Whether a piece reaches a square hangs on what stands there only by its being something. -/
theorem can_apart {c d : Nat → Nat} {a b : Nat} (ha : a < 90) (hb : b < 90) (hab : a ≠ b) (h : ∀ i, i < 90 → i ≠ b → c i = d i) (hc : c b ≠ 46) (hd : d b ≠ 46) : canN c a b = canN d a b := by
  have h1 := h a ha hab
  have e1 : (c b == 46) = false := by simpa using hc
  have e2 : (d b == 46) = false := by simpa using hd
  have e3 : (c b != 46) = true := by simpa using hc
  have e4 : (d b != 46) = true := by simpa using hd
  have hh : horseN c a b = horseN d a b := by
    unfold horseN
    cases hq : ((away (a % 9) (b % 9) == 1 && away (a / 9) (b / 9) == 2) || (away (a % 9) (b % 9) == 2 && away (a / 9) (b / 9) == 1))
    · rfl
    · obtain ⟨q1, q2⟩ := leg_all ⟨a, ha⟩ ⟨b, hb⟩ hq
      rw [h _ q2 q1]
  have he : (away (a % 9) (b % 9) == 2 && away (a / 9) (b / 9) == 2 && mayN (d a) b && c ((a + b) / 2) == 46) = (away (a % 9) (b % 9) == 2 && away (a / 9) (b / 9) == 2 && mayN (d a) b && d ((a + b) / 2) == 46) := by
    cases hq : (away (a % 9) (b % 9) == 2)
    · rfl
    · rw [h _ (by omega) (mid_all ⟨a, ha⟩ ⟨b, hb⟩ (beq_iff_eq.1 hq))]
  unfold canN
  rw [h1, betwN_apart ha hb h, e1, e2, e3, e4, hh, he]
theorem pawnO_side (a : Int) (ha : a = 0 ∨ a = 1) : sideN (pawnO a) = 1 - a ∧ pawnO a ≠ 46 := by
  rcases ha with rfl | rfl <;> decide
/-- Whoever attacks a square on which something of the other side stands reaches it, and nobody else does. -/
theorem takes_same (s : ByteArray) (hs : isBoard s = true) (n : Nat) (hn : n < 90) (h0 : 0 ≤ sideN (cel s n)) : attS s (n : Int) (1 - sideN (cel s n)) = (List.range 90).filter fun f : Nat => canS s (f : Int) (n : Int) := by
  have hz := board_size hs
  have hle := sideN_le (cel s n)
  have ha : 1 - sideN (cel s n) = 0 ∨ 1 - sideN (cel s n) = 1 := by omega
  obtain ⟨hp1, hp2⟩ := pawnO_side _ ha
  obtain ⟨hc1, hc2⟩ := pawnO_cell (1 - sideN (cel s n))
  rw [att_same s hs n hn _ ha]
  unfold rattL
  refine List.filter_congr fun f hf => ?_
  have hf := List.mem_range.1 hf
  have h1 : canS s (f : Int) (n : Int) = fastN (cel s) f n := by
    unfold canS allS
    rw [if_pos ⟨hs, by omega, by omega⟩, Int.toNat_natCast]
    unfold allN
    rw [Bool.eq_iff_iff, List.any_eq_true]
    constructor
    · rintro ⟨x, hx, he⟩
      have : x = n := by have := beq_iff_eq.1 he; omega
      subst this
      exact (List.mem_filter.1 hx).2
    · intro h
      exact ⟨n, List.mem_filter.2 ⟨List.mem_range.2 hn, h⟩, by simp⟩
  rw [h1]
  have hcel : ∀ i, i < 90 → cel (putT s n (pawnO (1 - sideN (cel s n)))) i = if i = n then pawnO (1 - sideN (cel s n)) else cel s i := fun i hi => putT_cel s n _ i hc2 (by omega)
  by_cases hfn : f = n
  · subst hfn
    have e1 := hcel f hf
    rw [if_pos rfl] at e1
    rw [e1, hp1]
    unfold fastN
    have : (1 - (1 - sideN (cel s f)) == 1 - sideN (cel s f)) = false := by rw [beq_eq_false_iff_ne]; omega
    rw [this]
    simp
  · have e1 := hcel f hf
    rw [if_neg hfn] at e1
    have e2 := hcel n hn
    rw [if_pos rfl] at e2
    have hn46 : cel s n ≠ 46 := by intro h; rw [h] at h0; simp [sideN, isRed, isBlack] at h0
    have hcan : canN (cel (putT s n (pawnO (1 - sideN (cel s n))))) f n = canN (cel s) f n :=
      can_apart hf hn hfn (fun i hi hin => by rw [hcel i hi, if_neg hin]) (by rw [e2]; exact hp2) hn46
    unfold fastN
    rw [e1, e2, hcan, hp1]
    have hfl := sideN_le (cel s f)
    have b1 : (sideN (cel s f) == 1 - sideN (cel s n)) = (decide (0 ≤ sideN (cel s f)) && sideN (cel s n) != sideN (cel s f)) := by
      rw [Bool.eq_iff_iff]
      simp only [beq_iff_eq, Bool.and_eq_true, decide_eq_true_eq, bne_iff_ne]
      omega
    have b2 : (decide (0 ≤ sideN (cel s f)) && 1 - (1 - sideN (cel s n)) != sideN (cel s f)) = (decide (0 ≤ sideN (cel s f)) && sideN (cel s n) != sideN (cel s f)) := by
      rw [show (1 : Int) - (1 - sideN (cel s n)) = sideN (cel s n) by omega]
    rw [b2, b1]
    cases (decide (0 ≤ sideN (cel s f)) && sideN (cel s n) != sideN (cel s f)) <;> simp
end Go.Proofs.YtllbkppdkldmiaaGreatDoor.K

/- CheckTakes: the walk. -/
namespace Go.Proofs.YtllbkppdkldmiaaGreatDoor.K
open Go.RowKit Go.Lib Go.Proofs.YtllbkppdkldmiaaGreatDoorW.PrintWords Go.Proofs.YtllbkppdkldmiaaGreatDoor.Sp
set_option linter.unusedVariables false
set_option linter.unusedSimpArgs false
/-- Who reaches a square, among the first i. -/
def takesL (s : ByteArray) (n : Int) (i : Nat) : List Nat := (List.range i).filter fun f : Nat => canS s (f : Int) n
theorem takesL_succ (s : ByteArray) (n : Int) (i : Nat) : takesL s n (i + 1) = takesL s n i ++ (if canS s (i : Int) n = true then [i] else []) := by
  unfold takesL
  rw [List.range_succ, List.filter_append]
  congr 1
  by_cases h : canS s (i : Int) n = true
  · rw [if_pos h]; simp only [List.filter_cons, h, List.filter_nil]; rfl
  · rw [if_neg h]; simp only [List.filter_cons, h, List.filter_nil]; rfl
theorem takesL_len (s : ByteArray) (n : Int) (i : Nat) : (takesL s n i).length ≤ i := by
  unfold takesL
  refine Nat.le_trans (List.length_filter_le _ _) ?_
  simp
set_option maxRecDepth 100000 in
set_option maxHeartbeats 4000000 in
theorem takesLaw (w : World) (s : ByteArray) (n : Int) (hmx : s.size ≤ maxLen) (hT : TabW w) : Calls Tryz.prog 4 #[.string s, .int .i64 n] w fun e w' => e = .returned (.bool true) ∧ Below w.heap.size w w' := by
  have HT := Aside0.mk (fun (W : World) (hb : Below w.heap.size w W) => hT.below hb)
  have HLV := Aside0.mk (fun (W : World) (hT : TabW W) => live7_c W hT)
  have HB0 := Aside0.mk (Below.refl w.heap.size w)
  have HAT := Aside0.mk (fun W => at_c s n W)
  have hx256 : atS s n < 256 := by unfold atS; split; exact cel_lt _ _; omega
  have HSD := Aside0.mk (fun W => side_c (atS s n) hx256 W)
  by_cases h200 : s.size > 200
  · have h1 : (200 : Int) < (s.size : Int) := by omega
    clear h200 hmx hT HAT HSD hx256
    go_enter Tryz.func4, Tryz.ntmps4
    go_wp2_with (go_at_call 16; refine (HLV.out _ (HT.out _ HB0.out)).mono ?_; rintro e w1 ⟨rfl, hb⟩; have HW1 := Aside0.mk hb; clear hb)
    go_ret
    exact ⟨rfl, HW1.out⟩
  have h1 : (s.size : Int) ≤ 200 := by omega
  by_cases hin : 0 ≤ sideN (atS s n)
  case neg =>
    have h2 : sideN (atS s n) < 0 := by omega
    generalize atS s n = x at *
    generalize sideN x = sd at *
    clear h200 hmx hT hx256 hin
    go_enter Tryz.func4, Tryz.ntmps4
    go_wp2_with (first
      | (go_at_call 27; refine (HAT.out _).mono ?_; rintro e w1 ⟨rfl, hb⟩; have HB1 := Aside0.mk hb; clear hb)
      | (go_at_call 26; refine (HSD.out _).mono ?_; rintro e w2 ⟨rfl, rfl⟩)
      | (go_at_call 16; refine (HLV.out _ (HT.out _ HB1.out)).mono ?_; rintro e w3 ⟨rfl, hb⟩; have HB3 := Aside0.mk (HB1.out.trans (hb.mono HB1.out.size)); clear hb))
    go_ret
    exact ⟨rfl, HB3.out⟩
  have hsq : isBoard s = true ∧ 0 ≤ n ∧ n < 90 := by
    by_cases hq : isBoard s = true ∧ 0 ≤ n ∧ n < 90
    · exact hq
    · rw [show atS s n = 46 by unfold atS; rw [if_neg hq]] at hin
      simp [sideN, isRed, isBlack] at hin
  obtain ⟨hs, n0, n90⟩ := hsq
  obtain ⟨m, rfl⟩ : ∃ m : Nat, n = m := ⟨n.toNat, by omega⟩
  have hm : m < 90 := by omega
  have hat : atS s (m : Int) = cel s m := by unfold atS; rw [if_pos ⟨hs, n0, n90⟩]; rfl
  rw [hat] at HAT HSD hin hx256
  have hsl := sideN_le (cel s m)
  have hE := takes_same s hs m hm hin
  have HA := Aside0.mk (fun (W : World) (hT : TabW W) => att_c s (m : Int) (1 - sideN (cel s m)) W hT)
  rw [show attS s (m : Int) (1 - sideN (cel s m)) = takesL s (m : Int) 90 from hE] at HA
  have HCN := Aside0.mk (fun (i : Nat) (W : World) => can_c s (i : Int) (m : Int) W)
  have HLN := Aside0.mk (fun i => takesL_len s (m : Int) i)
  have HST := Aside0.mk (fun i => takesL_succ s (m : Int) i)
  have n89 : (m : Int) ≤ 89 := by omega
  generalize cel s m = x at *
  generalize sideN x = sd at *
  have hd0 : sd ≤ 1 := hsl.2
  clear h200 hmx hT hx256 hs hsl hE hat hm
  obtain ⟨i0, hi0, hx0⟩ := Option.map_eq_some_iff.1 info_int
  simp only [Prod.mk.injEq] at hx0
  have HZ := Aside0.mk (⟨hi0, hx0⟩ : _ ∧ _)
  clear hx0 hi0
  generalize hb1 : (1 - sd : Int) = b at *
  go_enter Tryz.func4, Tryz.ntmps4
  go_wp2_with (first
    | (go_at_call 27; refine (HAT.out _).mono ?_; rintro e w1 ⟨rfl, hb⟩; have HB1 := Aside0.mk hb; clear hb)
    | (go_at_call 26; refine (HSD.out _).mono ?_; rintro e w2 ⟨rfl, rfl⟩)
    | (go_at_call 18; refine (HA.out _ (HT.out _ HB1.out)).mono ?_; rintro e w3 ⟨v3, rfl, hv, hb⟩; have HB3 := Aside0.mk (HB1.out.trans (hb.mono HB1.out.size)); have HV3 := Aside0.mk hv; clear hb hv))
  go_loopg [7, 8] 90 (fun gg s7 s8 wr => ∃ i : Nat, s8 = .int .i64 i ∧ i + gg = 90 ∧ Aside0 (FindAt w3 wr s7 (takesL s (m : Int) i)))
  case atStart => exact ⟨0, rfl, by omega, ⟨⟨own_nil _ _ _ _, Below.refl _ _⟩⟩⟩
  case round =>
    obtain ⟨i, rfl, hi, HG⟩ := hrel
    cases gk with
    | zero =>
      obtain rfl : i = 90 := by omega
      have hv := ints_ofI HG.out.own
      have HV := Aside0.mk hv
      have HV3' := Aside0.mk (HV3.out.below (HG.out.bel))
      have HIN := Aside0.mk (fun (W : World) (B1 B2 : Nat) (v1 v2 : Value) (h1 : IntsAt W B1 v1 (takesL s (m : Int) 90)) (h2 : IntsAt W B2 v2 (takesL s (m : Int) 90)) => intsA_c W B1 B2 v1 v2 _ _ h1 h2 (by have := HLN.out 90; omega) (by have := HLN.out 90; omega))
      rw [show decide (takesL s (m : Int) 90 = takesL s (m : Int) 90) = true by simp] at HIN
      have HB4 := Aside0.mk (HB3.out.trans (HG.out.bel.mono HB3.out.size))
      generalize takesL s (m : Int) 90 = l at *
      clear hv hi HG HV3
      go_wp2_with (first
        | (go_at_call 17; refine (HIN.out _ _ _ _ _ HV3'.out HV.out).mono ?_; rintro e w5 ⟨rfl, hb⟩; have HB5 := Aside0.mk (HB4.out.trans (hb.mono HB4.out.size)); clear hb)
        | (go_at_call 16; refine (HLV.out _ (HT.out _ HB5.out)).mono ?_; rintro e w6 ⟨rfl, hb⟩; have HB6 := Aside0.mk (HB5.out.trans (hb.mono HB5.out.size)); clear hb))
      go_ret
      exact ⟨rfl, HB6.out⟩
    | succ g =>
      have hn : ((i : Int) < 90) := by omega
      have HI := Aside0.mk (show i + 1 + g = 90 by omega)
      have HLI := Aside0.mk (show (takesL s (m : Int) i).length ≤ 90 by have := HLN.out i; omega)
      have HC := Aside0.mk (HCN.out i)
      have hst := HST.out i
      clear hi
      cases hc : canS s (i : Int) (m : Int)
      case false =>
        rw [hc] at HC hst
        have HF := Aside0.mk (show takesL s (m : Int) (i + 1) = takesL s (m : Int) i by rw [hst]; simp)
        clear hst hc
        go_wp2_with (go_at_call 28; refine (HC.out _).mono ?_; rintro e w4 ⟨rfl, hb⟩; have HG4 := Aside0.mk (HG.out.below hb); clear hb)
        go_roundg g
        case measure => omega
        case rel => exact ⟨i + 1, rfl, HI.out, ⟨by rw [HF.out]; exact HG4.out⟩⟩
      case true =>
        rw [hc] at HC hst
        have HF := Aside0.mk (show takesL s (m : Int) (i + 1) = takesL s (m : Int) i ++ [i] by rw [hst]; simp)
        clear hst hc
        generalize takesL s (m : Int) i = l at *
        go_wp2_with (first
          | (go_at_call 28; refine (HC.out _).mono ?_; rintro e w4 ⟨rfl, hb⟩; have HG4 := Aside0.mk (HG.out.below hb); clear hb)
          | (at_builtin; refine hold ?_))
        refine Hold.go ?_
        refine wpList_append_lies _ (by rfl) _ _ _ (by rfl) w3.heap.size 3 i0 _ 1 8 Tryz.underlying24 HZ.out.1 HZ.out.2.1 HZ.out.2.2.1 HZ.out.2.2.2 rfl (by omega) _ l.length (flatI l) (by rfl) (HG4.out.own.below (below_alloc (Below.refl _ _) _)) ⟨w4.heap.size, 0, none⟩ 1 1 [.int .i64 (i : Int)] (by rfl) (by rfl) (World.news_of_block (cs := #[.int .i64 (i : Int)]) (t := 3) (fr := (0, 0)) (news_own _ _)) (by simp [Value.oneCell']) (by omega) (by have := HLI.out; unfold maxLen; omega) (by have := HLI.out; omega) (by have := HG4.out.bel.size; simp; omega) _ rfl ?_
        intro gg cap1 w5 hown1 hgrow hat hlt1
        have HO1 := Aside0.mk hown1
        have HGR := Aside0.mk hgrow
        clear hown1 hgrow hat
        go_wp2_with fail
        go_roundg g
        case measure => omega
        case rel =>
          refine ⟨i + 1, rfl, HI.out, ⟨?_⟩⟩
          rw [HF.out]
          refine (HG4.out.below (below_alloc (Below.refl _ _) _)).grown HGR.out ?_
          have ho := HO1.out
          unfold OwnI
          rw [flatI_append, List.length_append]
          exact ho
end Go.Proofs.YtllbkppdkldmiaaGreatDoor.K
