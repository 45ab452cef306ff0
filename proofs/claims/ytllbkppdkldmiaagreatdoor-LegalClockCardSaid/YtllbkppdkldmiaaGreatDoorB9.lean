/- Walks and plain laws that several statements lean on, joined: no statement of the seat is proved here. -/
import Derived.Test.YtllbkppdkldmiaaGreatDoorB6

/- CheckWhere: plain law and walk. -/
namespace Go.Proofs.YtllbkppdkldmiaaGreatDoor.K
open Go.RowKit Go.Lib Go.Proofs.YtllbkppdkldmiaaGreatDoorW.PrintWords Go.Proofs.YtllbkppdkldmiaaGreatDoor.Sp
set_option linter.unusedVariables false
set_option linter.unusedSimpArgs false
theorem put_put (s : ByteArray) (n c x : Nat) : putT (putT s n c) n x = putT s n x := by
  apply ByteArray.ext
  apply Array.ext'
  rw [put_list, put_list, put_list, List.set_set]
/-- What stands on a square is of no moment to who attacks it. -/
theorem att_where (s : ByteArray) (hs : isBoard s = true) (n : Nat) (hn : n < 90) (c : Nat) (hc : cellB c = true) (hc2 : c < 256) (a : Int) (ha : a = 0 ∨ a = 1) : attS (putT s n c) (n : Int) a = attS s (n : Int) a := by
  rw [att_same s hs n hn a ha, att_same (putT s n c) (putT_board s hs n c hc hc2) n hn a ha, put_put]
set_option maxRecDepth 100000 in
set_option maxHeartbeats 4000000 in
theorem whereLaw (w : World) (s : ByteArray) (n : Int) (c : Nat) (hc2 : c < 256) (hmx : s.size ≤ maxLen) (hT : TabW w) : Calls Tryz.prog 7 #[.string s, .int .i64 n, .int .u8 (c : Int)] w fun e w' => e = .returned (.bool true) ∧ Below w.heap.size w w' := by
  have HT := Aside0.mk (fun (W : World) (hb : Below w.heap.size w W) => hT.below hb)
  have HLV := Aside0.mk (fun (W : World) (hT : TabW W) => live7_c W hT)
  have HB0 := Aside0.mk (Below.refl w.heap.size w)
  have HIS := Aside0.mk (fun W => is_c s W)
  have HSD := Aside0.mk (fun W => rside_c c hc2 W)
  by_cases h200 : s.size > 200
  · have h1 : (200 : Int) < (s.size : Int) := by omega
    clear h200 hmx hT HIS HSD hc2
    go_enter Tryz.func7, Tryz.ntmps7
    go_wp2_with (go_at_call 16; refine (HLV.out _ (HT.out _ HB0.out)).mono ?_; rintro e w1 ⟨rfl, hb⟩; have HW1 := Aside0.mk hb; clear hb)
    go_ret
    exact ⟨rfl, HW1.out⟩
  have h1 : (s.size : Int) ≤ 200 := by omega
  cases hs : isBoard s with
  | false =>
    rw [hs] at HIS
    clear h200 hmx hT HSD hc2 hs
    go_enter Tryz.func7, Tryz.ntmps7
    go_wp2_with (first
      | (go_at_call 37; refine (HIS.out _).mono ?_; rintro e w1 ⟨rfl, hb⟩; have HB1 := Aside0.mk hb; clear hb)
      | (go_at_call 16; refine (HLV.out _ (HT.out _ HB1.out)).mono ?_; rintro e w2 ⟨rfl, hb⟩; have HB2 := Aside0.mk (HB1.out.trans (hb.mono HB1.out.size)); clear hb))
    go_ret
    exact ⟨rfl, HB2.out⟩
  | true =>
  rw [hs] at HIS
  by_cases hn : 0 ≤ n ∧ n ≤ 89
  case neg =>
    have hq : n < 0 ∨ (0 ≤ n ∧ 89 < n) := by omega
    clear h200 hmx hT HSD hc2 hs hn
    rcases hq with h2 | ⟨h2, h3⟩
    all_goals
      go_enter Tryz.func7, Tryz.ntmps7
      go_wp2_with (first
        | (go_at_call 37; refine (HIS.out _).mono ?_; rintro e w1 ⟨rfl, hb⟩; have HB1 := Aside0.mk hb; clear hb)
        | (go_at_call 16; refine (HLV.out _ (HT.out _ HB1.out)).mono ?_; rintro e w2 ⟨rfl, hb⟩; have HB2 := Aside0.mk (HB1.out.trans (hb.mono HB1.out.size)); clear hb))
      go_ret
      exact ⟨rfl, HB2.out⟩
  obtain ⟨h2, h3⟩ := hn
  by_cases hsd : 0 ≤ sideN c
  case neg =>
    have h4 : sideN c < 0 := by omega
    generalize sideN c = sd at *
    clear h200 hmx hT hc2 hs hsd
    go_enter Tryz.func7, Tryz.ntmps7
    go_wp2_with (first
      | (go_at_call 37; refine (HIS.out _).mono ?_; rintro e w1 ⟨rfl, hb⟩; have HB1 := Aside0.mk hb; clear hb)
      | (go_at_call 34; refine (HSD.out _).mono ?_; rintro e w1 ⟨rfl, rfl⟩)
      | (go_at_call 16; refine (HLV.out _ (HT.out _ HB1.out)).mono ?_; rintro e w2 ⟨rfl, hb⟩; have HB2 := Aside0.mk (HB1.out.trans (hb.mono HB1.out.size)); clear hb))
    go_ret
    exact ⟨rfl, HB2.out⟩
  have hcb : cellB c = true := by rw [cellB_side' c hc2]; simp [hsd]
  obtain ⟨m, rfl⟩ : ∃ m : Nat, n = m := ⟨n.toNat, by omega⟩
  have hm : m < 90 := by omega
  have HP := Aside0.mk (fun W => put_yes s m c hs hm hcb hc2 W)
  have e0 := att_where s hs m hm c hcb hc2 0 (.inl rfl)
  have e1 := att_where s hs m hm c hcb hc2 1 (.inr rfl)
  have HA0 := Aside0.mk (fun (W : World) (hT : TabW W) => att_c s (m : Int) 0 W hT)
  have HA1 := Aside0.mk (fun (W : World) (hT : TabW W) => att_c s (m : Int) 1 W hT)
  have HC0 := Aside0.mk (fun (W : World) (hT : TabW W) => att_c (putT s m c) (m : Int) 0 W hT)
  have HC1 := Aside0.mk (fun (W : World) (hT : TabW W) => att_c (putT s m c) (m : Int) 1 W hT)
  rw [e0] at HC0
  rw [e1] at HC1
  have HL0 := Aside0.mk (show (attS s (m : Int) 0).length ≤ 1000000 by have := attS_len s m 0; omega)
  have HL1 := Aside0.mk (show (attS s (m : Int) 1).length ≤ 1000000 by have := attS_len s m 1; omega)
  generalize attS s (m : Int) 0 = l0 at *
  generalize attS s (m : Int) 1 = l1 at *
  generalize putT s m c = t at *
  have HI0 := Aside0.mk (fun (W : World) (B1 B2 : Nat) (v1 v2 : Value) (h1 : IntsAt W B1 v1 l0) (h2 : IntsAt W B2 v2 l0) => intsA_c W B1 B2 v1 v2 l0 l0 h1 h2 HL0.out HL0.out)
  have HI1 := Aside0.mk (fun (W : World) (B1 B2 : Nat) (v1 v2 : Value) (h1 : IntsAt W B1 v1 l1) (h2 : IntsAt W B2 v2 l1) => intsA_c W B1 B2 v1 v2 l1 l1 h1 h2 HL1.out HL1.out)
  rw [show decide (l0 = l0) = true by simp] at HI0
  rw [show decide (l1 = l1) = true by simp] at HI1
  generalize sideN c = sd at *
  clear h200 hmx hT hc2 hs hcb hm e0 e1
  go_enter Tryz.func7, Tryz.ntmps7
  go_upto_region 4 with (first
    | (go_at_call 37; refine (HIS.out _).mono ?_; rintro e w1 ⟨rfl, hb⟩; have HB1 := Aside0.mk hb; clear hb)
    | (go_at_call 34; refine (HSD.out _).mono ?_; rintro e w1 ⟨rfl, rfl⟩)
    | (go_at_call 36; refine (HP.out _).mono ?_; rintro e w2 ⟨rfl, hb⟩; have HB2 := Aside0.mk (HB1.out.trans (hb.mono HB1.out.size)); clear hb))
  go_wp2_with fail
  refine (HA0.out _ (HT.out _ HB2.out)).mono ?_
  rintro e w3 ⟨v3, rfl, hv3, hb⟩
  have HB3 := Aside0.mk (HB2.out.trans (hb.mono HB2.out.size))
  have HV3 := Aside0.mk hv3
  clear hb hv3
  go_wp2_with fail
  refine (HC0.out _ (HT.out _ HB3.out)).mono ?_
  rintro e w4 ⟨v4, rfl, hv4, hb⟩
  have HB4 := Aside0.mk (HB3.out.trans (hb.mono HB3.out.size))
  have HV3' := Aside0.mk (HV3.out.below hb)
  have HV4 := Aside0.mk hv4
  clear hb hv4
  go_wp2_with fail
  refine (HI0.out _ _ _ _ _ HV3'.out HV4.out).mono ?_
  rintro e w5 ⟨rfl, hb⟩
  have HB5 := Aside0.mk (HB4.out.trans (hb.mono HB4.out.size))
  clear hb
  go_wp2_with fail
  refine (HA1.out _ (HT.out _ HB5.out)).mono ?_
  rintro e w6 ⟨v6, rfl, hv6, hb⟩
  have HB6 := Aside0.mk (HB5.out.trans (hb.mono HB5.out.size))
  have HV6 := Aside0.mk hv6
  clear hb hv6
  go_wp2_with fail
  refine (HC1.out _ (HT.out _ HB6.out)).mono ?_
  rintro e w7 ⟨v7, rfl, hv7, hb⟩
  have HB7 := Aside0.mk (HB6.out.trans (hb.mono HB6.out.size))
  have HV6' := Aside0.mk (HV6.out.below hb)
  have HV7 := Aside0.mk hv7
  clear hb hv7
  go_wp2_with fail
  refine (HI1.out _ _ _ _ _ HV6'.out HV7.out).mono ?_
  rintro e w8 ⟨rfl, hb⟩
  have HB8 := Aside0.mk (HB7.out.trans (hb.mono HB7.out.size))
  clear hb
  go_wp2_with (go_at_call 16; refine (HLV.out _ (HT.out _ HB8.out)).mono ?_; rintro e w9 ⟨rfl, hb⟩; have HB9 := Aside0.mk (HB8.out.trans (hb.mono HB8.out.size)); clear hb)
  go_ret
  exact ⟨rfl, HB9.out⟩
end Go.Proofs.YtllbkppdkldmiaaGreatDoor.K
