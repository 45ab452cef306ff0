/- Walks and plain laws that several statements lean on, joined: no statement of the seat is proved here. -/
import Derived.Test.YtllbkppdkldmiaaGreatDoorB13
import Derived.Test.YtllbkppdkldmiaaGreatDoorB12
import Derived.Test.YtllbkppdkldmiaaGreatDoorB15

/- Plain law: texts of bytes; a position from the other side. -/
namespace Go.Proofs.YtllbkppdkldmiaaGreatDoor.K
open Go.RowKit Go.Lib Go.Proofs.YtllbkppdkldmiaaGreatDoorW.PrintWords Go.Proofs.YtllbkppdkldmiaaGreatDoor.Sp
set_option linter.unusedVariables false
theorem swap14 : ∀ x ∈ pieces14, swapN x ∈ pieces14 ∧ x ∈ letters ∧ swapN (swapN x) = x ∧ kindN (swapN x) = kindN x ∧ mostN (swapN x) = mostN x := by decide
theorem check_turn {p : Pos} (hck : checkP p = 0) : checkP (turnP p) = 0 := by
  obtain ⟨hao, hbad, hri⟩ := checkP_parts hck
  obtain ⟨hbd, hsd, h1, h2, h3, h4⟩ := argOk_yes hao
  obtain ⟨ht, hc⟩ := turnS_is hbd
  have hl : ∀ n, n < 90 → cel p.cells n ∈ letters := fun n hn => board_cell hbd hn
  refine checkP_mk ?_ ?_ ?_
  · unfold argOk turnP
    simp only
    rw [ht]
    simp only [Bool.true_and, decide_eq_true_eq]
    omega
  · intro x hx
    obtain ⟨m1, m2, m3, m4, m5⟩ := swap14 x hx
    have e : cntX (turnS p.cells) 90 x = cntX p.cells 90 (swapN x) := by
      unfold cntX
      refine count_flip (fun b hb => ?_)
      rw [hc _ (by omega), turnC_at _ hb, Bool.eq_iff_iff, beq_iff_eq, beq_iff_eq]
      constructor
      · intro h; rw [← h]; exact ((swap_facts _ (hl b hb)).2.2.2.2).symm
      · intro h; rw [h]; exact m3
    have := hbad _ m1
    unfold badX at this ⊢
    simp only [turnP]
    have e2 : cntX (turnP p).cells 90 x = cntX p.cells 90 (swapN x) := e
    rw [m4, m5] at this
    rw [← e] at this
    exact this
  · intro n hn
    simp only [turnP]
    rw [hc n hn]
    have hfl : 89 - (89 - n) = n := by omega
    rcases hri (89 - n) (by omega) with h | h
    · left
      unfold turnC
      rw [h]; rfl
    · right
      have := may_turn _ (hl (89 - n) (by omega)) ⟨89 - n, by omega⟩
      simp only [hfl] at this
      unfold turnC
      rw [this]
      exact h
theorem gath_turn {p : Pos} (hck : checkP p = 0) : gathP (turnP p) (fun _ => true) = ((gathP p (fun _ => true)).map flipM).reverse := by
  obtain ⟨hbd, hsd, _⟩ := argOk_yes (checkP_parts hck).1
  obtain ⟨ht, hc⟩ := turnS_is hbd
  have hl : ∀ n, n < 90 → cel p.cells n ∈ letters := fun n hn => board_cell hbd hn
  unfold gathP
  rw [if_pos hck, if_pos (check_turn hck)]
  unfold gathM
  refine flatMap_flip (fun a ha => ?_)
  unfold fromM
  simp only [turnP]
  have hsa : (sideN (cel (turnS p.cells) (89 - a)) = 1 - p.side) ↔ (sideN (cel p.cells a) = p.side) := by
    rw [hc _ (by omega), turnC_at _ ha, (swap_facts _ (hl a ha)).2.2.2.1]
    have := sideV (cel p.cells a)
    split <;> omega
  by_cases hs : sideN (cel p.cells a) = p.side
  · rw [if_pos hs]
    refine Eq.trans (if_pos (hsa.2 hs)) ?_
    have e : ∀ l : List Nat, l.filter (fun b => (fun _ => true) (cel (turnS p.cells) b)) = l := fun l => by simp
    have e' : ∀ l : List Nat, l.filter (fun b => (fun _ => true) (cel p.cells b)) = l := fun l => by simp
    rw [e, e']
    unfold allN
    rw [filter_flip (P := fastN (cel p.cells) a) (fun b hb => ?_)]
    · rw [List.map_reverse, List.map_map, List.map_map]
      rfl
    · rw [fast_congr (d := turnC (cel p.cells)) (fun n hn => hc n hn) (by omega) (by omega) (fun n hn => by rw [hc n hn]; exact turnC_letters hl hn)]
      exact fast_turn hl ha hb
  · rw [if_neg hs]
    exact Eq.trans (if_neg (fun h => hs (hsa.1 h))) rfl
theorem gath_side {p : Pos} {m : Mv} (hck : checkP p = 0) (hm : m ∈ gathP p (fun _ => true)) : sideN (cel p.cells m.1) = p.side ∧ m ∉ gathP ⟨p.cells, 1 - p.side, p.clock, p.full⟩ (fun _ => true) := by
  obtain ⟨_, hsd, _⟩ := argOk_yes (checkP_parts hck).1
  have h := (gath_mem hm).2.2.2.1
  refine ⟨h, fun hm2 => ?_⟩
  have h2 := (gath_mem hm2).2.2.2.1
  simp only at h2
  omega
end Go.Proofs.YtllbkppdkldmiaaGreatDoor.K

/- Plain law: the moves that may be made, seen from the other side. -/
namespace Go.Proofs.YtllbkppdkldmiaaGreatDoor.K
open Go.RowKit Go.Lib Go.Proofs.YtllbkppdkldmiaaGreatDoorW.PrintWords Go.Proofs.YtllbkppdkldmiaaGreatDoor.Sp
set_option linter.unusedVariables false
set_option linter.unusedSimpArgs false
theorem board_same {s t : ByteArray} (hs : s.size = 90) (ht : t.size = 90) (h : ∀ n, n < 90 → cel s n = cel t n) : s = t := by
  apply ByteArray.ext
  apply Array.ext
  · exact hs.trans ht.symm
  · intro i h1 h2
    have h1' : i < s.size := h1
    have h2' : i < t.size := h2
    have e := h i (by omega)
    rw [← cel_get s i h1', ← cel_get t i h2'] at e
    exact UInt8.toNat_inj.1 e
theorem moved_turn {s : ByteArray} (hs : isBoard s = true) {a b : Nat} (hm : isBoard (movedB s a b) = true) (ha : a < 90) (hb : b < 90) (hab : a ≠ b) : movedB (turnS s) (89 - a) (89 - b) = turnS (movedB s a b) := by
  obtain ⟨ht, hc⟩ := turnS_is hs
  obtain ⟨ht2, hc2⟩ := turnS_is hm
  have hz := board_size hs
  have hz2 := board_size ht
  refine board_same (by rw [moved_size, hz2]) (board_size ht2) (fun n hn => ?_)
  rw [moved_cel (by omega) (by omega) (by omega), hc2 n hn]
  unfold turnC moveC setC
  rw [moved_cel (by omega) (by omega) (by omega)]
  unfold moveC setC
  by_cases h1 : n = 89 - a
  · rw [if_pos h1, if_pos (show 89 - n = a by omega)]; rfl
  · rw [if_neg h1]
    by_cases h2 : n = 89 - b
    · rw [if_pos h2, if_neg (show ¬ 89 - n = a by omega), if_pos (show 89 - n = b by omega), hc _ (by omega)]
      unfold turnC
      rw [show 89 - (89 - a) = a by omega]
    · rw [if_neg h2, if_neg (show ¬ 89 - n = a by omega), if_neg (show ¬ 89 - n = b by omega), hc n hn]; rfl
theorem flip_mem {p : Pos} (hck : checkP p = 0) {m : Mv} (hm : m ∈ gathP p (fun _ => true)) : flipM m ∈ gathP (turnP p) (fun _ => true) := by
  rw [gath_turn hck, List.mem_reverse]
  exact List.mem_map_of_mem hm
theorem may_flip {p : Pos} (hck : checkP p = 0) {m : Mv} (hm : m ∈ gathP p (fun _ => true)) : mayR (turnS p.cells) (1 - p.side) (flipM m) = mayR p.cells p.side m := by
  obtain ⟨_, h1, h2, h3, h4, _⟩ := gath_mem hm
  obtain ⟨hbd, hsd, _⟩ := argOk_yes (checkP_parts hck).1
  obtain ⟨_, hc⟩ := turnS_is hbd
  obtain ⟨_, _, _, hab, _⟩ := move_parts hck h1 h2 h3 h4
  obtain ⟨ma, mb⟩ := m
  simp only at h1 h2 h3 h4 hab
  have hk : kindN (cel (turnS p.cells) (89 - mb)) = kindN (cel p.cells mb) := by
    rw [hc _ (by omega), turnC_at _ h2, (swap_facts _ (board_cell hbd h2)).2.2.1]
  unfold mayR flipM
  simp only
  rw [hk]
  by_cases hk75 : kindN (cel p.cells mb) = 75
  · rw [hk75]; rfl
  · obtain ⟨hq, hmb, _⟩ := right_after hck h1 h2 h3 h4 hk75 0 1 (by omega) (by omega)
    obtain ⟨x, y, ho⟩ := check_one hq
    simp only at ho
    rw [moved_turn hbd hmb h1 h2 hab]
    unfold safeR
    rw [fac_turn ho, in_turn ho p.side hsd]
theorem legal_turn {p : Pos} (hb : isBoard p.cells = true) (hs : p.side = 0 ∨ p.side = 1) : legalL (turnP p) = ((legalL p).map flipM).reverse := by
  have hw := well_turn hb hs
  by_cases h : wellS p = 0
  · have hck := well_check h
    have hw0 : wellS (turnP p) = 0 := by rw [hw, h]
    have hck' := well_check hw0
    have e1 : legalL (turnP p) = (gathP (turnP p) (fun _ => true)).filter (mayR (turnS p.cells) (1 - p.side)) := by
      unfold legalL
      rw [if_pos hw0]
      exact List.filter_congr fun m hm => safe_may hck' hm
    have e2 : legalL p = (gathP p (fun _ => true)).filter (mayR p.cells p.side) := by
      unfold legalL
      rw [if_pos h]
      exact List.filter_congr fun m hm => safe_may hck hm
    rw [e1, e2, gath_turn hck, List.filter_reverse, List.filter_map]
    congr 2
    exact List.filter_congr fun m hm => may_flip hck hm
  · rw [legal_no h, legal_no (by rw [hw]; exact h)]; rfl
theorem end_turn {p : Pos} (h : wellS p = 0) : endS (turnP p) = endS p := by
  have hck := well_check h
  obtain ⟨hbd, hsd, _⟩ := argOk_yes (checkP_parts hck).1
  obtain ⟨x, y, ho⟩ := check_one hck
  rw [end_eq, end_eq, well_turn hbd hsd, legal_turn hbd hsd, List.length_reverse, List.length_map]
  have e : inS (turnP p).cells (turnP p).side = inS p.cells p.side := in_turn ho p.side hsd
  rw [e]
end Go.Proofs.YtllbkppdkldmiaaGreatDoor.K

/- LegalTurn: the walk. -/
namespace Go.Proofs.YtllbkppdkldmiaaGreatDoor.K
open Go.RowKit Go.Lib Go.Proofs.YtllbkppdkldmiaaGreatDoorW.PrintWords Go.Proofs.YtllbkppdkldmiaaGreatDoor.Sp
set_option linter.unusedVariables false
set_option linter.unusedSimpArgs false
attribute [local go_sem] cel_get   -- for this text's walks alone
theorem rev_at {l : List Mv} {i : Nat} (hi : i < l.length) : (l.map flipM).reverse[l.length - 1 - i]? = some (flipM l[i]) := by
  rw [List.getElem?_reverse (by rw [List.length_map]; omega), List.length_map, show l.length - 1 - (l.length - 1 - i) = i by omega, List.getElem?_map, List.getElem?_eq_getElem hi]
  rfl
/-- Two positions' boxes, two rows of moves. -/
structure T8At (w0 W : World) (p q : Pos) (qb : Nat) (v1 v2 : Value) (l k : List Mv) : Prop where
  two : TwoAt w0 W p v1 v2 l k
  qx : BoxP W qb q
theorem T8At.below {w0 W W' : World} {p q : Pos} {qb : Nat} {v1 v2 : Value} {l k : List Mv} (h : T8At w0 W p q qb v1 v2 l k) (hb : Below W.heap.size W W') : T8At w0 W' p q qb v1 v2 l k := ⟨h.two.below hb, h.qx.below hb⟩
set_option maxRecDepth 100000 in
set_option maxHeartbeats 4000000 in
theorem turn8_idle (w : World) (p : Pos) (hmx : p.cells.size ≤ maxLen) (hT : TabW w) (h : 200 < p.cells.size ∨ wellS p ≠ 0) : Calls Tryz.prog 12 #[posV p] w fun e w' => e = .returned (.bool true) ∧ Below w.heap.size w w' := by
  have HT := Aside0.mk (fun (W : World) (hb : Below w.heap.size w W) => hT.below hb)
  have HLV := Aside0.mk (fun (W : World) (hT : TabW W) => live8_c W hT)
  have HW := Aside0.mk (fun (W : World) (hT : TabW W) => well_c p W hT)
  have hu := Tryz.underlying33
  have HP0 := Aside0.mk (LmAt.new w p)
  unfold maxLen at hmx
  by_cases h200 : 200 < p.cells.size
  · have h1 : (200 : Int) < (p.cells.size : Int) := by omega
    clear h200 hmx hT h
    go_enter Tryz.func12, Tryz.ntmps12
    go_wp2_with (go_at_call 38; refine (HLV.out _ (HT.out _ HP0.out.bel)).mono ?_; rintro e w1 ⟨rfl, hb⟩; have HW1 := Aside0.mk (HP0.out.below hb).bel; clear hb)
    go_ret
    exact ⟨rfl, HW1.out⟩
  · have h1 : (p.cells.size : Int) ≤ 200 := by omega
    have hw : wellS p ≠ 0 := h.resolve_left h200
    have h2 : (wellS p != 0) = true := by simpa using hw
    clear h200 hmx hT h hw
    generalize wellS p = r at *
    go_enter Tryz.func12, Tryz.ntmps12
    go_wp2_with (first
      | (go_at_call 31; refine (HW.out _ (HT.out _ HP0.out.bel)).mono ?_; rintro e w1 ⟨rfl, hb⟩; have HW1 := Aside0.mk (HP0.out.below hb); clear hb)
      | (go_at_call 38; refine (HLV.out _ (HT.out _ HW1.out.bel)).mono ?_; rintro e w2 ⟨rfl, hb⟩; have HW2 := Aside0.mk (HW1.out.below hb).bel; clear hb))
    go_ret
    exact ⟨rfl, HW2.out⟩
set_option maxRecDepth 100000 in
set_option maxHeartbeats 4000000 in
theorem legalTurnLaw (w : World) (p : Pos) (hmx : p.cells.size ≤ maxLen) (hT : TabW w) : Calls Tryz.prog 12 #[posV p] w fun e w' => e = .returned (.bool true) ∧ Below w.heap.size w w' := by
  by_cases h200 : 200 < p.cells.size
  · exact turn8_idle w p hmx hT (.inl h200)
  by_cases hw : wellS p = 0
  case neg => exact turn8_idle w p hmx hT (.inr hw)
  have HT := Aside0.mk (fun (W : World) (hb : Below w.heap.size w W) => hT.below hb)
  have HLV := Aside0.mk (fun (W : World) (hT : TabW W) => live8_c W hT)
  have HW := Aside0.mk (fun (W : World) (hT : TabW W) => well_c p W hT)
  rw [hw] at HW
  have hu := Tryz.underlying33
  have hu2 := Tryz.underlying49
  have h1 : (p.cells.size : Int) ≤ 200 := by omega
  have hck := well_check hw
  have hargs := argOk_yes (checkP_parts hck).1
  have HM := Aside0.mk (fun (W : World) (hT : TabW W) => lmoves_c p W hT)
  have HMQ := Aside0.mk (fun (W : World) (hT : TabW W) => lmoves_c (turnP p) W hT)
  have HPT := Aside0.mk (fun W => pturn_c p hargs.1 hargs.2.1 W)
  have HEP := Aside0.mk (fun (W : World) (hT : TabW W) => lend_c p W hT)
  have HEQ := Aside0.mk (fun (W : World) (hT : TabW W) => lend_c (turnP p) W hT)
  rw [end_turn hw] at HEQ
  rw [legal_turn hargs.1 hargs.2.1] at HMQ
  have HMEM := Aside0.mk (fun m (h : m ∈ legalL p) => gath_mem (legal_mem.1 h).2.1)
  have HLL := Aside0.mk (legal_len2 p)
  have HP0 := Aside0.mk (LmAt.new w p)
  clear hck hargs hw h200 hmx hT
  generalize endS p = en at *
  generalize legalL p = l at *
  have HREV := Aside0.mk (fun i (hi : i < l.length) => rev_at hi)
  have HKL := Aside0.mk (show (l.map flipM).reverse.length = l.length by simp)
  generalize (l.map flipM).reverse = k at *
  generalize turnP p = q at *
  go_enter Tryz.func12, Tryz.ntmps12
  go_wp2_with fail
  refine (HW.out _ (HT.out _ HP0.out.bel)).mono ?_
  rintro e w1 ⟨rfl, hb⟩
  have HP1 := Aside0.mk (HP0.out.below hb)
  clear hb HP0
  obtain ⟨e0, e1, e2, e3⟩ := HP1.out.box
  go_wp2_with fail
  refine (HPT.out _).mono ?_
  rintro e w2 ⟨rfl, hb⟩
  have HP2 := Aside0.mk ((HP1.out.below hb).below (below_alloc (Below.refl _ _) (.cells #[.string q.cells, .int .i64 q.side, .int .i64 q.clock, .int .i64 q.full] 33)))
  have HQ2 := Aside0.mk (BoxP.new w2 q)
  clear hb HP1 e0 e1 e2 e3
  go_upto_region 4 with fail
  generalize w2.heap.size = qb at *
  generalize (w2.alloc (.cells #[.string q.cells, .int .i64 q.side, .int .i64 q.clock, .int .i64 q.full] 33)) = w3 at *
  obtain ⟨e0, e1, e2, e3⟩ := HP2.out.box
  go_wp2_with fail
  refine (HM.out _ (HT.out _ HP2.out.bel)).mono ?_
  rintro e w4 ⟨v1, rfl, h2, hb⟩
  have HP4 := Aside0.mk (HP2.out.below hb)
  have HQ4 := Aside0.mk (HQ2.out.below hb)
  have HV4 := Aside0.mk (h2.reads.lower HP2.out.bel.size)
  clear h2 hb HP2 HQ2 e0 e1 e2 e3
  obtain ⟨e0, e1, e2, e3⟩ := HQ4.out
  go_wp2_with fail
  refine (HMQ.out _ (HT.out _ HP4.out.bel)).mono ?_
  rintro e w5 ⟨v2, rfl, h3, hb⟩
  have HX := Aside0.mk (show T8At w w5 p q qb v1 v2 l k from ⟨⟨HP4.out.box.below hb, HV4.out.below hb, h3.reads.lower HP4.out.bel.size, below_go HP4.out.bel hb⟩, HQ4.out.below hb⟩)
  clear h3 hb HP4 HQ4 HV4 e0 e1 e2 e3
  obtain ⟨A1, cap1, rfl⟩ := HX.out.two.m1.form
  obtain ⟨A2, cap2, rfl⟩ := HX.out.two.m2.form
  rw [HKL.out]
  have HXX := Aside0.mk (show T8At w w5 p q qb (.slice A1 l.length cap1) (.slice A2 l.length cap2) l k by have := HX.out; rw [HKL.out] at this; exact this)
  clear HX
  have hnl : ((l.length : Int) != (l.length : Int)) = false := by simp
  go_wp2_with fail
  have HX1 := Aside0.mk (HXX.out.below (pw_below_drewN (Below.refl _ _) 1) : T8At w w5.drew p q qb (.slice A1 l.length cap1) (.slice A2 l.length cap2) l k)
  obtain ⟨e0, e1, e2, e3⟩ := HXX.out.two.box
  obtain ⟨f0, f1, f2, f3⟩ := HXX.out.qx
  clear HXX
  go_region_held3 (fun W => W.cell? ⟨w.heap.size, 0, none⟩ = some (.string p.cells) ∧ W.cell? ⟨w.heap.size, 1, none⟩ = some (.int .i64 p.side) ∧ W.cell? ⟨w.heap.size, 2, none⟩ = some (.int .i64 p.clock) ∧ W.cell? ⟨w.heap.size, 3, none⟩ = some (.int .i64 p.full) ∧ W.cell? ⟨qb, 0, none⟩ = some (.string q.cells) ∧ W.cell? ⟨qb, 1, none⟩ = some (.int .i64 q.side) ∧ W.cell? ⟨qb, 2, none⟩ = some (.int .i64 q.clock) ∧ W.cell? ⟨qb, 3, none⟩ = some (.int .i64 q.full)) (go_keep)
    (first
      | (go_at_call 44; (with_reducible refine (HEP.out _ (HT.out _ HX1.out.two.bel)).mono ?_); rintro e w6 ⟨rfl, hb⟩; have HX2 := Aside0.mk (HX1.out.below hb); clear HX1 hb e0 e1 e2 e3 f0 f1 f2 f3; obtain ⟨e0, e1, e2, e3⟩ := HX2.out.two.box; obtain ⟨f0, f1, f2, f3⟩ := HX2.out.qx)
      | (go_at_call 44; (with_reducible refine (HEQ.out _ (HT.out _ HX2.out.two.bel)).mono ?_); rintro e w7 ⟨rfl, hb⟩; have HX3 := Aside0.mk (HX2.out.below hb); clear HX2 hb e0 e1 e2 e3 f0 f1 f2 f3; obtain ⟨e0, e1, e2, e3⟩ := HX3.out.two.box; obtain ⟨f0, f1, f2, f3⟩ := HX3.out.qx))
  all_goals
    clear e0 e1 e2 e3 f0 f1 f2 f3
    go_wp2_with fail
    go_loopg [6] l.length (fun gg s6 wr => ∃ i : Nat, s6 = .int .i64 i ∧ i + gg = l.length ∧ Aside0 (TwoAt w wr p (.slice A1 l.length cap1) (.slice A2 l.length cap2) l k))
    case atStart => exact ⟨0, rfl, by omega, ⟨HX3.out.two⟩⟩
    case round =>
      clear HX3
      obtain ⟨i, rfl, hi, HX⟩ := hrel
      cases gk with
      | zero =>
        have hn : ¬ ((i : Int) < (l.length : Int)) := by omega
        clear hi
        go_wp2_with (go_at_call 38; refine (HLV.out _ (HT.out _ HX.out.bel)).mono ?_; rintro e w8 ⟨rfl, hb⟩; have HW8 := Aside0.mk (below_go HX.out.bel hb); clear hb)
        go_ret
        exact ⟨rfl, HW8.out⟩
      | succ g =>
        have hn : (i : Int) < (l.length : Int) := by omega
        have hil : i < l.length := by omega
        have hib : (i : Int) ≤ 8100 := by have := HLL.out; omega
        have hlb : (l.length : Int) ≤ 8100 := by have := HLL.out; omega
        have HI := Aside0.mk (show i + 1 + g = l.length by omega)
        obtain ⟨_, ha90, hb90, _⟩ := HMEM.out _ (List.getElem_mem hil)
        obtain ⟨g1, cap1', hA1, _, hg1, hx1⟩ := HX.out.m1.at (fun h => by rw [h] at hil; simp at hil)
        simp only [Value.slice.injEq, true_and] at hA1
        obtain ⟨rfl, rfl⟩ := hA1
        obtain ⟨x0, x1⟩ := hx1 i hil
        have hkl : l.length - 1 - i < k.length := by rw [HKL.out]; omega
        obtain ⟨g2, cap2', hA2, _, hg2, hx2⟩ := HX.out.m2.at (fun h => by rw [h] at hkl; simp at hkl)
        rw [HKL.out] at hA2
        simp only [Value.slice.injEq, true_and] at hA2
        obtain ⟨rfl, rfl⟩ := hA2
        obtain ⟨y0, y1⟩ := hx2 _ hkl
        have hrv := HREV.out i hil
        rw [List.getElem?_eq_getElem hkl] at hrv
        rw [Option.some.inj hrv] at y0 y1
        have hj : (l.length : Int) - 1 - (i : Int) = ((l.length - 1 - i : Nat) : Int) := by omega
        have HJ0 := Aside0.mk (show l.length - 1 - i < l.length by omega)
        clear hx1 hx2 hrv hi hkl
        generalize l[i] = m at *
        obtain ⟨ma, mb⟩ := m
        unfold flipM at y0 y1
        simp only at ha90 hb90 x0 x1 y0 y1
        rw [show ((89 - ma : Nat) : Int) = 89 - (ma : Int) by omega] at y0
        rw [show ((89 - mb : Nat) : Int) = 89 - (mb : Int) by omega] at y1
        have hm0 : (ma : Int) < 90 := by omega
        have hm1 : (mb : Int) < 90 := by omega
        generalize l.length - 1 - i = j at *
        have hjl : (j : Int) < (l.length : Int) := by have := HJ0.out; omega
        have hj0 : 0 ≤ (j : Int) := by omega
        clear ha90 hb90 hil
        go_wp2_with fail
        go_quiet (fail)
        go_wp2_with fail
        go_roundg g
        case measure => omega
        case rel => exact ⟨i + 1, by go_num, by have := HI.out; omega, ⟨HX.out.below (pw_below_drewN (Below.refl _ _) _)⟩⟩
end Go.Proofs.YtllbkppdkldmiaaGreatDoor.K
