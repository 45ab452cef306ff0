/- Walks and plain laws that several statements lean on, joined: no statement of the seat is proved here. -/
import Derived.Test.YtllbkppdkldmiaaGreatDoorB10

/- CheckBetween: plain law. -/
namespace Go.Proofs.YtllbkppdkldmiaaGreatDoor.K
open Go.RowKit Go.Lib Go.Proofs.YtllbkppdkldmiaaGreatDoorW.PrintWords Go.Proofs.YtllbkppdkldmiaaGreatDoor.Sp
set_option linter.unusedVariables false
/-- What Facing says. -/
theorem fac_parts {s : ByteArray} (h : facS s = true) : ∃ a b : Nat, genS s 0 = a ∧ genS s 1 = b ∧ a < 90 ∧ b < 90 ∧ a % 9 = b % 9 ∧ isBoard s = true ∧ betwN (cel s) a b = 0 := by
  unfold facS at h
  simp only [Bool.and_eq_true, decide_eq_true_eq, beq_iff_eq] at h
  obtain ⟨h1, h2, h3, h4⟩ := h
  have key : ∀ x, 0 ≤ genS s x → ∃ a : Nat, genS s x = a ∧ a < 90 ∧ isBoard s = true := by
    intro x hx
    unfold genS at hx ⊢
    split at hx
    · rename_i hq
      rw [if_pos hq]
      have hl := findS_lt s (kingO x)
      cases hf : findS s (kingO x) with
      | nil => rw [hf] at hx; exact absurd hx (by show ¬ (0 ≤ (-1 : Int)); omega)
      | cons n tl =>
        rw [hf] at hl
        obtain ⟨p1, p2, _⟩ := hl n List.mem_cons_self
        exact ⟨n, rfl, p1, p2⟩
    · omega
  obtain ⟨a, ea, la, hb⟩ := key 0 h1
  obtain ⟨b, eb, lb, _⟩ := key 1 h2
  rw [ea, eb] at h3 h4
  unfold fileS at h3
  rw [if_pos ⟨by omega, by omega⟩, if_pos ⟨by omega, by omega⟩] at h3
  unfold betwS at h4
  rw [if_pos ⟨hb, ⟨by omega, by omega⟩, ⟨by omega, by omega⟩⟩, Int.toNat_natCast, Int.toNat_natCast] at h4
  exact ⟨a, b, ea, eb, la, lb, by omega, hb, h4⟩
theorem betw_mem {a b n : Nat} (hc : a % 9 = b % 9) (h1 : min a b < n) (h2 : n < max a b) (h3 : n % 9 = a % 9) : n ∈ betwL a b ∧ a ≠ b := by
  have hab : a ≠ b := by omega
  refine ⟨?_, hab⟩
  unfold betwL
  rw [if_neg (by omega), if_pos hc]
  have hm : Nat.min a b = min a b := rfl
  refine List.mem_map.2 ⟨n / 9 - min a b / 9 - 1, List.mem_range.2 ?_, ?_⟩
  · unfold away
    split <;> omega
  · rw [hm]; omega
/-- A piece between the generals: they face one another no more. -/
theorem fac_between {s : ByteArray} (h : facS s = true) (n : Nat) (c : Nat) (hc2 : c < 256) (hsd : 0 ≤ sideN c) (hk : kindN c ≠ 75)
    (h1 : min (genS s 0) (genS s 1) < (n : Int)) (h2 : (n : Int) < max (genS s 0) (genS s 1)) (h3 : (n : Int) % 9 = genS s 0 % 9) : n < 90 ∧ facS (putS s (n : Int) c) = false := by
  obtain ⟨a, b, ea, eb, la, lb, hab, hb, hbt⟩ := fac_parts h
  rw [ea, eb] at h1 h2
  rw [ea] at h3
  obtain ⟨hmem, hne⟩ := betw_mem (n := n) hab (by omega) (by omega) (by omega)
  have hn : n < 90 := by omega
  refine ⟨hn, ?_⟩
  have hz := board_size hb
  have hcb : cellB c = true := by rw [cellB_side' c hc2]; simp [hsd]
  have hc46 : c ≠ 46 := by rintro rfl; simp [sideN, isRed, isBlack] at hsd
  rw [show putS s (n : Int) c = putT s n c from if_pos ⟨hb, by omega, by omega, hcb⟩]
  have hbt2 : ∀ d : Nat → Nat, betwN d a b = ((betwL a b).countP (fun i => d i != 46) : Nat) := by
    intro d; unfold betwN; rw [if_neg hne, if_pos (.inr hab)]
  rw [hbt2] at hbt
  have hs46 : cel s n = 46 := by
    have h0 : (betwL a b).countP (fun i => cel s i != 46) = 0 := by omega
    have := List.countP_eq_zero.1 h0 n hmem
    simpa using this
  have hcel : ∀ i, i < 90 → cel (putT s n c) i = if i = n then c else cel s i := fun i hi => putT_cel s n c i hc2 (by omega)
  have htb := putT_board s hb n c hcb hc2
  have hfind : ∀ k, k = 75 ∨ k = 107 → findS (putT s n c) k = findS s k := by
    intro k hkk
    unfold findS
    rw [if_pos htb, if_pos hb]
    refine List.filter_congr fun i hi => ?_
    rw [hcel i (List.mem_range.1 hi)]
    by_cases hin : i = n
    · subst hin
      rw [if_pos rfl, hs46]
      have e1 : c ≠ k := by
        rintro rfl
        rcases hkk with rfl | rfl
        · exact hk (by decide)
        · exact hk (by decide)
      rw [decide_eq_false e1, decide_eq_false (by omega)]
    · rw [if_neg hin]
  have hg0 : genS (putT s n c) 0 = a := by rw [← ea]; unfold genS; rw [if_pos (.inl rfl), if_pos (.inl rfl), hfind _ (show kingO 0 = 75 ∨ kingO 0 = 107 by decide)]
  have hg1 : genS (putT s n c) 1 = b := by rw [← eb]; unfold genS; rw [if_pos (.inr rfl), if_pos (.inr rfl), hfind _ (show kingO 1 = 75 ∨ kingO 1 = 107 by decide)]
  have hbs : (betwS (putT s n c) (a : Int) (b : Int) == 0) = false := by
    rw [beq_eq_false_iff_ne]
    unfold betwS
    rw [if_pos ⟨htb, ⟨by omega, by omega⟩, ⟨by omega, by omega⟩⟩, Int.toNat_natCast, Int.toNat_natCast, hbt2]
    have : 0 < (betwL a b).countP (fun i => cel (putT s n c) i != 46) := List.countP_pos_iff.2 ⟨n, hmem, by rw [hcel n hn, if_pos rfl]; simpa using hc46⟩
    omega
  unfold facS
  rw [hg0, hg1, hbs]
  simp
end Go.Proofs.YtllbkppdkldmiaaGreatDoor.K

/- CheckBetween: the walk. -/
namespace Go.Proofs.YtllbkppdkldmiaaGreatDoor.K
open Go.RowKit Go.Lib Go.Proofs.YtllbkppdkldmiaaGreatDoorW.PrintWords Go.Proofs.YtllbkppdkldmiaaGreatDoor.Sp
set_option linter.unusedVariables false
set_option linter.unusedSimpArgs false
set_option maxRecDepth 100000 in
set_option maxHeartbeats 4000000 in
theorem betweenLaw (w : World) (s : ByteArray) (n : Int) (c : Nat) (hn64 : -9223372036854775808 ≤ n ∧ n ≤ 9223372036854775807) (hc2 : c < 256) (hmx : s.size ≤ maxLen) (hT : TabW w) : Calls Tryz.prog 6 #[.string s, .int .i64 n, .int .u8 (c : Int)] w fun e w' => e = .returned (.bool true) ∧ Below w.heap.size w w' := by
  have HT := Aside0.mk (fun (W : World) (hb : Below w.heap.size w W) => hT.below hb)
  have HLV := Aside0.mk (fun (W : World) (hT : TabW W) => live7_c W hT)
  have HB0 := Aside0.mk (Below.refl w.heap.size w)
  have HF := Aside0.mk (fun (W : World) (hT : TabW W) => fac_c s W hT)
  by_cases h200 : s.size > 200
  · have h1 : (200 : Int) < (s.size : Int) := by omega
    clear h200 hmx hT HF
    go_enter Tryz.func6, Tryz.ntmps6
    go_wp2_with (go_at_call 16; refine (HLV.out _ (HT.out _ HB0.out)).mono ?_; rintro e w1 ⟨rfl, hb⟩; have HW1 := Aside0.mk hb; clear hb)
    go_ret
    exact ⟨rfl, HW1.out⟩
  have h1 : (s.size : Int) ≤ 200 := by omega
  cases hf : facS s with
  | false =>
    rw [hf] at HF
    clear h200 hmx hT hf
    go_enter Tryz.func6, Tryz.ntmps6
    go_wp2_with (first
      | (go_at_call 22; refine (HF.out _ (HT.out _ HB0.out)).mono ?_; rintro e w1 ⟨rfl, hb⟩; have HB1 := Aside0.mk hb; clear hb)
      | (go_at_call 16; refine (HLV.out _ (HT.out _ HB1.out)).mono ?_; rintro e w2 ⟨rfl, hb⟩; have HB2 := Aside0.mk (HB1.out.trans (hb.mono HB1.out.size)); clear hb))
    go_ret
    exact ⟨rfl, HB2.out⟩
  | true =>
  rw [hf] at HF
  have HFB := Aside0.mk (fun m (e : n = ((m : Nat) : Int)) h0 hk h1 h2 h3 => fac_between hf m c hc2 h0 hk h1 h2 h3)
  have HG0 := Aside0.mk (fun (W : World) (hT : TabW W) => gen_c s 0 W hT)
  have HG1 := Aside0.mk (fun (W : World) (hT : TabW W) => gen_c s 1 W hT)
  have HRB := Aside0.mk (fun (W : World) => rbetw_c s hmx (genS s 0) (genS s 1) W)
  have hbz : betwS s (genS s 0) (genS s 1) = 0 := by
    unfold facS at hf
    simp only [Bool.and_eq_true, beq_iff_eq] at hf
    exact hf.2.2.2
  rw [hbz] at HRB
  obtain ⟨a, b, ea, eb, la, lb, hab, _, _⟩ := fac_parts hf
  rw [ea] at HG0 HRB
  rw [eb] at HG1 HRB
  rw [ea, eb] at HFB
  have HRS := Aside0.mk (fun W => rside_c c hc2 W)
  have HRK := Aside0.mk (fun W => rkind_c c hc2 W)
  have HPT := Aside0.mk (fun W => put_c s n c hc2 W)
  have HFP := Aside0.mk (fun (W : World) (hT : TabW W) => fac_c (putS s n c) W hT)
  have a0 : 0 ≤ (a : Int) := by omega
  have a9 : (a : Int) ≤ 89 := by omega
  have b0 : 0 ≤ (b : Int) := by omega
  have b9 : (b : Int) ≤ 89 := by omega
  have hk : (((kindN c : Nat) : Int) == 75) = (kindN c == 75) := by rw [Bool.eq_iff_iff, beq_iff_eq, beq_iff_eq]; omega
  clear h200 hmx hT hf hbz ea eb hc2
  -- the ways to 'nothing is put between'
  by_cases q1 : n ≤ min (a : Int) (b : Int)
  · skip
    clear HFB HPT HFP HRS HRK hk
    go_enter Tryz.func6, Tryz.ntmps6
    go_wp2_with (first
      | (go_at_call 22; (with_reducible refine (HF.out _ (HT.out _ HB0.out)).mono ?_); rintro e w1 ⟨rfl, hb⟩; have HB1 := Aside0.mk hb; clear hb)
      | (go_at_call 20; (with_reducible refine (HG0.out _ (HT.out _ HB1.out)).mono ?_); rintro e w2 ⟨rfl, hb⟩; have HB2 := Aside0.mk (HB1.out.trans (hb.mono HB1.out.size)); clear hb)
      | (go_at_call 20; (with_reducible refine (HG1.out _ (HT.out _ HB2.out)).mono ?_); rintro e w3 ⟨rfl, hb⟩; have HB3 := Aside0.mk (HB2.out.trans (hb.mono HB2.out.size)); clear hb)
      | (go_at_call 33; refine (HRB.out _).mono ?_; rintro e w4 ⟨rfl, rfl⟩)
      | (go_at_call 34; refine (HRS.out _).mono ?_; rintro e w4 ⟨rfl, rfl⟩)
      | (go_at_call 35; refine (HRK.out _).mono ?_; rintro e w4 ⟨rfl, rfl⟩)
      | (go_at_call 16; refine (HLV.out _ (HT.out _ (by first | exact HB3.out | exact HB4.out))).mono ?_; rintro e w5 ⟨rfl, hb⟩; have HB5 := Aside0.mk (show Below w.heap.size w w5 from (by first | exact HB3.out.trans (hb.mono HB3.out.size) | exact HB4.out.trans (hb.mono HB4.out.size))); clear hb))
    go_ret
    exact ⟨rfl, HB5.out⟩
  by_cases q2 : max (a : Int) (b : Int) ≤ n
  · skip
    clear HFB HPT HFP HRS HRK hk
    go_enter Tryz.func6, Tryz.ntmps6
    go_wp2_with (first
      | (go_at_call 22; (with_reducible refine (HF.out _ (HT.out _ HB0.out)).mono ?_); rintro e w1 ⟨rfl, hb⟩; have HB1 := Aside0.mk hb; clear hb)
      | (go_at_call 20; (with_reducible refine (HG0.out _ (HT.out _ HB1.out)).mono ?_); rintro e w2 ⟨rfl, hb⟩; have HB2 := Aside0.mk (HB1.out.trans (hb.mono HB1.out.size)); clear hb)
      | (go_at_call 20; (with_reducible refine (HG1.out _ (HT.out _ HB2.out)).mono ?_); rintro e w3 ⟨rfl, hb⟩; have HB3 := Aside0.mk (HB2.out.trans (hb.mono HB2.out.size)); clear hb)
      | (go_at_call 33; refine (HRB.out _).mono ?_; rintro e w4 ⟨rfl, rfl⟩)
      | (go_at_call 34; refine (HRS.out _).mono ?_; rintro e w4 ⟨rfl, rfl⟩)
      | (go_at_call 35; refine (HRK.out _).mono ?_; rintro e w4 ⟨rfl, rfl⟩)
      | (go_at_call 16; refine (HLV.out _ (HT.out _ (by first | exact HB3.out | exact HB4.out))).mono ?_; rintro e w5 ⟨rfl, hb⟩; have HB5 := Aside0.mk (show Below w.heap.size w w5 from (by first | exact HB3.out.trans (hb.mono HB3.out.size) | exact HB4.out.trans (hb.mono HB4.out.size))); clear hb))
    go_ret
    exact ⟨rfl, HB5.out⟩
  have n0 : 0 ≤ n := by omega
  have n9 : n ≤ 89 := by omega
  by_cases q3n : n % 9 ≠ (a : Int) % 9
  · have q3 : (n % 9 != (a : Int) % 9) = true := by simpa using q3n
    clear HFB HPT HFP HRS HRK hk q3n
    go_enter Tryz.func6, Tryz.ntmps6
    go_wp2_with (first
      | (go_at_call 22; (with_reducible refine (HF.out _ (HT.out _ HB0.out)).mono ?_); rintro e w1 ⟨rfl, hb⟩; have HB1 := Aside0.mk hb; clear hb)
      | (go_at_call 20; (with_reducible refine (HG0.out _ (HT.out _ HB1.out)).mono ?_); rintro e w2 ⟨rfl, hb⟩; have HB2 := Aside0.mk (HB1.out.trans (hb.mono HB1.out.size)); clear hb)
      | (go_at_call 20; (with_reducible refine (HG1.out _ (HT.out _ HB2.out)).mono ?_); rintro e w3 ⟨rfl, hb⟩; have HB3 := Aside0.mk (HB2.out.trans (hb.mono HB2.out.size)); clear hb)
      | (go_at_call 33; refine (HRB.out _).mono ?_; rintro e w4 ⟨rfl, rfl⟩)
      | (go_at_call 34; refine (HRS.out _).mono ?_; rintro e w4 ⟨rfl, rfl⟩)
      | (go_at_call 35; refine (HRK.out _).mono ?_; rintro e w4 ⟨rfl, rfl⟩)
      | (go_at_call 16; refine (HLV.out _ (HT.out _ (by first | exact HB3.out | exact HB4.out))).mono ?_; rintro e w5 ⟨rfl, hb⟩; have HB5 := Aside0.mk (show Below w.heap.size w w5 from (by first | exact HB3.out.trans (hb.mono HB3.out.size) | exact HB4.out.trans (hb.mono HB4.out.size))); clear hb))
    go_ret
    exact ⟨rfl, HB5.out⟩
  have q3' : n % 9 = (a : Int) % 9 := by omega
  have q3 : (n % 9 != (a : Int) % 9) = false := by simpa using q3'
  clear q3n
  by_cases q4n : sideN c < 0
  · have q4 := q4n
    generalize sideN c = sd at *
    clear HFB HPT HFP HRK hk q3' q4n
    go_enter Tryz.func6, Tryz.ntmps6
    go_wp2_with (first
      | (go_at_call 22; (with_reducible refine (HF.out _ (HT.out _ HB0.out)).mono ?_); rintro e w1 ⟨rfl, hb⟩; have HB1 := Aside0.mk hb; clear hb)
      | (go_at_call 20; (with_reducible refine (HG0.out _ (HT.out _ HB1.out)).mono ?_); rintro e w2 ⟨rfl, hb⟩; have HB2 := Aside0.mk (HB1.out.trans (hb.mono HB1.out.size)); clear hb)
      | (go_at_call 20; (with_reducible refine (HG1.out _ (HT.out _ HB2.out)).mono ?_); rintro e w3 ⟨rfl, hb⟩; have HB3 := Aside0.mk (HB2.out.trans (hb.mono HB2.out.size)); clear hb)
      | (go_at_call 33; refine (HRB.out _).mono ?_; rintro e w4 ⟨rfl, rfl⟩)
      | (go_at_call 34; refine (HRS.out _).mono ?_; rintro e w4 ⟨rfl, rfl⟩)
      | (go_at_call 35; refine (HRK.out _).mono ?_; rintro e w4 ⟨rfl, rfl⟩)
      | (go_at_call 16; refine (HLV.out _ (HT.out _ (by first | exact HB3.out | exact HB4.out))).mono ?_; rintro e w5 ⟨rfl, hb⟩; have HB5 := Aside0.mk (show Below w.heap.size w w5 from (by first | exact HB3.out.trans (hb.mono HB3.out.size) | exact HB4.out.trans (hb.mono HB4.out.size))); clear hb))
    go_ret
    exact ⟨rfl, HB5.out⟩
  have q4' : 0 ≤ sideN c := by omega
  by_cases q5' : kindN c = 75
  · rw [show (kindN c == 75) = true by simpa using q5'] at hk
    have q4 : ¬ sideN c < 0 := by omega
    generalize sideN c = sd at *
    generalize kindN c = kd at *
    clear HFB HPT HFP q3' q4' q5'
    go_enter Tryz.func6, Tryz.ntmps6
    go_wp2_with (first
      | (go_at_call 22; (with_reducible refine (HF.out _ (HT.out _ HB0.out)).mono ?_); rintro e w1 ⟨rfl, hb⟩; have HB1 := Aside0.mk hb; clear hb)
      | (go_at_call 20; (with_reducible refine (HG0.out _ (HT.out _ HB1.out)).mono ?_); rintro e w2 ⟨rfl, hb⟩; have HB2 := Aside0.mk (HB1.out.trans (hb.mono HB1.out.size)); clear hb)
      | (go_at_call 20; (with_reducible refine (HG1.out _ (HT.out _ HB2.out)).mono ?_); rintro e w3 ⟨rfl, hb⟩; have HB3 := Aside0.mk (HB2.out.trans (hb.mono HB2.out.size)); clear hb)
      | (go_at_call 33; refine (HRB.out _).mono ?_; rintro e w4 ⟨rfl, rfl⟩)
      | (go_at_call 34; refine (HRS.out _).mono ?_; rintro e w4 ⟨rfl, rfl⟩)
      | (go_at_call 35; refine (HRK.out _).mono ?_; rintro e w4 ⟨rfl, rfl⟩)
      | (go_at_call 16; refine (HLV.out _ (HT.out _ (by first | exact HB3.out | exact HB4.out))).mono ?_; rintro e w5 ⟨rfl, hb⟩; have HB5 := Aside0.mk (show Below w.heap.size w w5 from (by first | exact HB3.out.trans (hb.mono HB3.out.size) | exact HB4.out.trans (hb.mono HB4.out.size))); clear hb))
    go_ret
    exact ⟨rfl, HB5.out⟩
  rw [show (kindN c == 75) = false by simpa using q5'] at hk
  have q4 : ¬ sideN c < 0 := by omega
  have HB := Aside0.mk (show facS (putS s n c) = false by
    obtain ⟨m, rfl⟩ : ∃ m : Nat, n = m := ⟨n.toNat, by omega⟩
    exact (HFB.out m rfl q4' q5' (by omega) (by omega) q3').2)
  rw [HB.out] at HFP
  generalize putS s n c = t at *
  clear HFB HB
  go_enter Tryz.func6, Tryz.ntmps6
  go_wp2_with (first
      | (go_at_call 22; (with_reducible refine (HF.out _ (HT.out _ HB0.out)).mono ?_); rintro e w1 ⟨rfl, hb⟩; have HB1 := Aside0.mk hb; clear hb)
      | (go_at_call 20; (with_reducible refine (HG0.out _ (HT.out _ HB1.out)).mono ?_); rintro e w2 ⟨rfl, hb⟩; have HB2 := Aside0.mk (HB1.out.trans (hb.mono HB1.out.size)); clear hb)
      | (go_at_call 20; (with_reducible refine (HG1.out _ (HT.out _ HB2.out)).mono ?_); rintro e w3 ⟨rfl, hb⟩; have HB3 := Aside0.mk (HB2.out.trans (hb.mono HB2.out.size)); clear hb)
      | (go_at_call 33; refine (HRB.out _).mono ?_; rintro e w4 ⟨rfl, rfl⟩)
      | (go_at_call 34; refine (HRS.out _).mono ?_; rintro e w4 ⟨rfl, rfl⟩)
      | (go_at_call 35; refine (HRK.out _).mono ?_; rintro e w4 ⟨rfl, rfl⟩)
      | (go_at_call 36; refine (HPT.out _).mono ?_; rintro e w4 ⟨rfl, hb⟩; have HB4 := Aside0.mk (HB3.out.trans (hb.mono HB3.out.size)); clear hb)
      | (go_at_call 22; (with_reducible refine (HFP.out _ (HT.out _ HB4.out)).mono ?_); rintro e w5 ⟨rfl, hb⟩; have HB5' := Aside0.mk (HB4.out.trans (hb.mono HB4.out.size)); clear hb)
      | (go_at_call 16; refine (HLV.out _ (HT.out _ HB5'.out)).mono ?_; rintro e w6 ⟨rfl, hb⟩; have HB6 := Aside0.mk (HB5'.out.trans (hb.mono HB5'.out.size)); clear hb))
  go_ret
  exact ⟨rfl, HB6.out⟩
end Go.Proofs.YtllbkppdkldmiaaGreatDoor.K
