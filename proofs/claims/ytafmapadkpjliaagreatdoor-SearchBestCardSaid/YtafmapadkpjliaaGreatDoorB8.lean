/- Walks and plain laws that several statements lean on, joined: no statement of the seat is proved here. -/
import Derived.Test.YtafmapadkpjliaaGreatDoorB7
import Derived.Test.YtafmapadkpjliaaGreatDoorB5
import Derived.Test.YtafmapadkpjliaaGreatDoorB1
import Derived.Test.YtafmapadkpjliaaGreatDoorB6

/- Walks: references: Attackers, In, Well. -/
namespace Go.Proofs.YtafmapadkpjliaaGreatDoor.K
open Go.RowKit Go.Lib Go.Proofs.YtafmapadkpjliaaGreatDoorW.PrintWords Go.Proofs.YtafmapadkpjliaaGreatDoor.Sp
set_option linter.unusedVariables false
set_option linter.unusedSimpArgs false
attribute [local go_sem] cel_get
theorem ints_ofI {W : World} {B : Nat} {v : Value} {l : List Nat} (h : OwnI W B v l) : IntsAt W B v l := by
  apply ints_of
  have e1 : (ints l).length = l.length := by simp [ints]
  have e2 : nums .i64 (ints l) = flatI l := by unfold nums ints flatI; rw [List.map_map]; rfl
  unfold OwnZ
  rw [e1, e2]
  exact h
/-- Attackers among the first i squares. -/
def rattL (t : ByteArray) (n : Nat) (a : Int) (i : Nat) : List Nat := (List.range i).filter fun f => (sideN (cel t f) == a) && fastN (cel t) f n
theorem rattL_succ (t : ByteArray) (n : Nat) (a : Int) (i : Nat) : rattL t n a (i + 1) = rattL t n a i ++ (if ((sideN (cel t i) == a) && fastN (cel t) i n) = true then [i] else []) := by
  unfold rattL
  rw [List.range_succ, List.filter_append]
  congr 1
  by_cases h : ((sideN (cel t i) == a) && fastN (cel t) i n) = true
  · rw [if_pos h]; simp only [List.filter_cons, h, List.filter_nil]; rfl
  · rw [if_neg h]; simp only [List.filter_cons, h, List.filter_nil]; rfl
theorem rattL_len (t : ByteArray) (n : Nat) (a : Int) (i : Nat) : (rattL t n a i).length ≤ i := by
  unfold rattL
  refine Nat.le_trans (List.length_filter_le _ _) ?_
  simp
theorem pawnO_cell (a : Int) : cellB (pawnO a) = true ∧ pawnO a < 256 := by
  unfold pawnO; split <;> decide
/-- The program's attackers are the reference's. -/
theorem att_same (s : ByteArray) (hs : isBoard s = true) (n : Nat) (hn : n < 90) (a : Int) (ha : a = 0 ∨ a = 1) : attS s (n : Int) a = rattL (putT s n (pawnO a)) n a 90 := by
  obtain ⟨hc1, hc2⟩ := pawnO_cell a
  have hb := putT_board s hs n (pawnO a) hc1 hc2
  unfold attS rattL
  rw [if_pos ⟨ha, by omega, by omega⟩, show putS s (n : Int) (pawnO a) = putT s n (pawnO a) from if_pos ⟨hs, by omega, by omega, hc1⟩]
  generalize putT s n (pawnO a) = t at *
  unfold piecesS
  rw [if_pos hb, List.filter_filter]
  refine List.filter_congr fun f hf => ?_
  have hf := List.mem_range.1 hf
  have h1 : canS t (f : Int) (n : Int) = fastN (cel t) f n := by
    unfold canS allS
    rw [if_pos ⟨hb, by omega, by omega⟩, Int.toNat_natCast]
    unfold allN
    rw [Bool.eq_iff_iff, List.any_eq_true]
    constructor
    · rintro ⟨x, hx, he⟩
      have : x = n := by have := beq_iff_eq.1 he; omega
      subst this
      exact (List.mem_filter.1 hx).2
    · intro h
      exact ⟨n, List.mem_filter.2 ⟨List.mem_range.2 hn, h⟩, by simp⟩
  rw [h1]
  have h0 : (0 ≤ a) := by omega
  rw [decide_eq_true h0, Bool.true_and, Bool.and_comm]
  rfl
theorem att_none (s : ByteArray) (hs : isBoard s = false) (n a : Int) : attS s n a = [] := by
  unfold attS
  split
  · rw [show putS s n (pawnO a) = s from if_neg (by rw [hs]; simp)]
    unfold piecesS
    rw [if_neg (by rw [hs]; decide)]
    rfl
  · rfl
set_option maxRecDepth 100000 in
set_option maxHeartbeats 2000000 in
theorem ratt_no (s : ByteArray) (hmx : s.size ≤ maxLen) (n a : Int) (h : ¬ (isBoard s = true ∧ (0 ≤ n ∧ n < 90) ∧ (a = 0 ∨ a = 1))) (w : World) : Calls Tryz.prog 86 #[.string s, .int .i64 n, .int .i64 a] w fun e w' => ∃ v, e = .returned v ∧ IntsAt w' w.heap.size v [] ∧ Below w.heap.size w w' := by
  have HI := Aside0.mk (fun W => ris_c s hmx W)
  have HB := Aside0.mk (Below.refl w.heap.size w)
  have HV := Aside0.mk (fun (W : World) => ints_of (l := []) (own_znil W w.heap.size))
  clear hmx
  cases hs : isBoard s with
  | false =>
    rw [hs] at HI
    clear hs h
    go_enter Tryz.func86, Tryz.ntmps86
    go_wp2_with (go_at_call 54; refine (HI.out _).mono ?_; rintro e w1 ⟨rfl, rfl⟩)
    go_ret
    exact ⟨_, rfl, HV.out _, HB.out⟩
  | true =>
    rw [hs] at HI
    have hq : n < 0 ∨ (0 ≤ n ∧ 89 < n) ∨ ((0 ≤ n ∧ n ≤ 89) ∧ a < 0) ∨ ((0 ≤ n ∧ n ≤ 89) ∧ 0 ≤ a ∧ 1 < a) := by
      by_cases h1 : 0 ≤ n ∧ n < 90
      · by_cases h2 : a = 0 ∨ a = 1
        · exact absurd ⟨hs, h1, h2⟩ h
        · omega
      · omega
    clear h hs
    rcases hq with h1 | ⟨h1, h2⟩ | ⟨⟨h1, h2⟩, h3⟩ | ⟨⟨h1, h2⟩, h3, h4⟩
    all_goals
      go_enter Tryz.func86, Tryz.ntmps86
      go_wp2_with (go_at_call 54; refine (HI.out _).mono ?_; rintro e w1 ⟨rfl, rfl⟩)
      go_ret
      exact ⟨_, rfl, HV.out _, HB.out⟩
set_option maxRecDepth 100000 in
set_option maxHeartbeats 4000000 in
theorem ratt_yes (s : ByteArray) (hs : isBoard s = true) (n : Nat) (hn : n < 90) (a : Int) (ha : a = 0 ∨ a = 1) (w : World) : Calls Tryz.prog 86 #[.string s, .int .i64 (n : Int), .int .i64 a] w fun e w' => ∃ v, e = .returned v ∧ IntsAt w' w.heap.size v (rattL (putT s n (pawnO a)) n a 90) ∧ Below w.heap.size w w' := by
  have HI := Aside0.mk (fun W => ris_c s (by rw [board_size hs]; unfold maxLen; omega) W)
  rw [hs] at HI
  have HP := Aside0.mk (fun W => rput_c s hs n hn a ha W)
  obtain ⟨hc1, hc2⟩ := pawnO_cell a
  have hb := putT_board s hs n (pawnO a) hc1 hc2
  generalize putT s n (pawnO a) = t at *
  have HSZ := Aside0.mk (board_size hb)
  have HFA := Aside0.mk (fun (i : Nat) (hi : i < 90) (W : World) => rfast_c t hb i n hi hn W)
  have a0 : 0 ≤ a := by omega
  have a1 : a ≤ 1 := by omega
  have n1 : (n : Int) ≤ 89 := by omega
  have n0 : 0 ≤ (n : Int) := by omega
  have HS := Aside0.mk (fun (i : Nat) (W : World) => rside_c (cel t i) (cel_lt t i) W)
  clear hs hn ha hc1 hc2 hb
  obtain ⟨i0, hi0, hx0⟩ := Option.map_eq_some_iff.1 info_int
  simp only [Prod.mk.injEq] at hx0
  have HZ := Aside0.mk (⟨hi0, hx0⟩ : _ ∧ _)
  clear hx0 hi0
  have HB0 := Aside0.mk (Below.refl w.heap.size w)
  go_enter Tryz.func86, Tryz.ntmps86
  go_wp2_with (first
    | (go_at_call 54; refine (HI.out _).mono ?_; rintro e w1 ⟨rfl, rfl⟩)
    | (go_at_call 124; refine (HP.out _).mono ?_; rintro e w2 ⟨rfl, hb⟩; have HB := Aside0.mk hb; clear hb))
  go_loopg [8, 9] 90 (fun gg s8 s9 wr => ∃ i : Nat, s9 = .int .i64 i ∧ i + gg = 90 ∧ Aside0 (FindAt w2 wr s8 (rattL t n a i)))
  case atStart => exact ⟨0, rfl, by omega, ⟨⟨own_nil _ _ _ _, Below.refl _ _⟩⟩⟩
  case round =>
    obtain ⟨i, rfl, hi, HG⟩ := hrel
    cases gk with
    | zero =>
      have hn : ¬ ((i : Int) < 90) := by omega
      have HI := Aside0.mk (show i = 90 by omega)
      clear hi
      go_wp2_with fail
      go_ret
      have ho := HG.out.own
      rw [HI.out] at ho
      have hi := ints_ofI ho
      obtain ⟨A, cap, hv, hcap, hx⟩ := hi.out
      exact ⟨_, rfl, ⟨A, cap, hv, hcap, hx.imp id (fun ⟨g, h1, h2, h3, h4⟩ => ⟨g, h1, Nat.le_trans HB.out.size h2, h3, h4⟩)⟩, HB.out.trans (HG.out.bel.mono HB.out.size)⟩
    | succ g =>
      have hn : ((i : Int) < 90) := by omega
      have i0' : 0 ≤ (i : Int) := by omega
      have i2 : (i : Int) < (t.size : Int) := by rw [HSZ.out]; omega
      have HI := Aside0.mk (show i + 1 + g = 90 by omega)
      have HLN := Aside0.mk (show (rattL t n a i).length ≤ 90 by have := rattL_len t n a i; omega)
      have HSI := Aside0.mk (HS.out i)
      have HFI := Aside0.mk (HFA.out i (by omega))
      have hst := rattL_succ t n a i
      clear hi
      generalize hxx : cel t i = x at HSI hst
      generalize hsd : sideN x = sd at HSI hst
      have HSD := Aside0.mk hsd
      clear hsd
      generalize fastN (cel t) i n = fa at *
      cases h1 : (sd == a)
      case false =>
        have HF := Aside0.mk (show rattL t n a (i + 1) = rattL t n a i by rw [hst, h1]; simp)
        clear hst HFI
        go_wp2_with (first
          | (go_at_call 46; refine (HSI.out _).mono ?_; rintro e w3 ⟨rfl, rfl⟩))
        go_roundg g
        case measure => omega
        case rel => exact ⟨i + 1, rfl, HI.out, ⟨by rw [HF.out]; exact HG.out⟩⟩
      case true =>
      cases fa
      case false =>
        have HF := Aside0.mk (show rattL t n a (i + 1) = rattL t n a i by rw [hst, h1]; simp)
        clear hst
        go_wp2_with (first
          | (go_at_call 46; refine (HSI.out _).mono ?_; rintro e w3 ⟨rfl, rfl⟩)
          | (go_at_call 47; refine (HFI.out _).mono ?_; rintro e w3 ⟨rfl, rfl⟩))
        go_roundg g
        case measure => omega
        case rel => exact ⟨i + 1, rfl, HI.out, ⟨by rw [HF.out]; exact HG.out⟩⟩
      case true =>
        have HF := Aside0.mk (show rattL t n a (i + 1) = rattL t n a i ++ [i] by rw [hst, h1]; simp)
        clear hst
        generalize rattL t n a i = l at *
        go_wp2_with (first
          | (go_at_call 46; refine (HSI.out _).mono ?_; rintro e w3 ⟨rfl, rfl⟩)
          | (go_at_call 47; refine (HFI.out _).mono ?_; rintro e w4 ⟨rfl, rfl⟩)
          | (at_builtin; refine hold ?_))
        refine Hold.go ?_
        refine wpList_append_lies _ (by rfl) _ _ _ (by rfl) w2.heap.size 3 i0 _ 1 8 Tryz.underlying94 HZ.out.1 HZ.out.2.1 HZ.out.2.2.1 HZ.out.2.2.2 rfl (by omega) _ l.length (flatI l) (by rfl) (HG.out.own.below (below_alloc (Below.refl _ _) _)) ⟨w4.heap.size, 0, none⟩ 1 1 [.int .i64 (i : Int)] (by rfl) (by rfl) (World.news_of_block (cs := #[.int .i64 (i : Int)]) (t := 3) (fr := (0, 0)) (news_own _ _)) (by simp [Value.oneCell']) (by omega) (by have := HLN.out; unfold maxLen; omega) (by have := HLN.out; omega) (by have := HG.out.bel.size; simp; omega) _ rfl ?_
        intro gg cap1 w5 hown1 hgrow hat hlt1
        have HO1 := Aside0.mk hown1
        have HGR := Aside0.mk hgrow
        clear hown1 hgrow hat
        go_wp2_with fail
        go_roundg g
        case measure => omega
        case rel =>
          refine ⟨i + 1, rfl, HI.out, ⟨?_⟩⟩
          rw [HF.out]
          refine (HG.out.below (below_alloc (Below.refl _ _) _)).grown HGR.out ?_
          have ho := HO1.out
          unfold OwnI
          rw [flatI_append, List.length_append]
          exact ho
theorem ratt_c (s : ByteArray) (hmx : s.size ≤ maxLen) (n a : Int) (w : World) : Calls Tryz.prog 86 #[.string s, .int .i64 n, .int .i64 a] w fun e w' => ∃ v, e = .returned v ∧ IntsAt w' w.heap.size v (attS s n a) ∧ Below w.heap.size w w' := by
  by_cases h : isBoard s = true ∧ (0 ≤ n ∧ n < 90) ∧ (a = 0 ∨ a = 1)
  · have e1 : n = ((n.toNat : Nat) : Int) := by omega
    have := ratt_yes s h.1 n.toNat (by omega) a h.2.2 w
    rw [← att_same s h.1 n.toNat (by omega) a h.2.2, ← e1] at this
    exact this
  · rw [show attS s n a = [] by
      by_cases h1 : isBoard s = true
      · exact if_neg (fun h2 => h ⟨h1, h2.2, h2.1⟩)
      · exact att_none s (by simpa using h1) n a]
    exact ratt_no s hmx n a h w
end Go.Proofs.YtafmapadkpjliaaGreatDoor.K

/- Walks: references: In, Well; Ints. -/
namespace Go.Proofs.YtafmapadkpjliaaGreatDoor.K
open Go.RowKit Go.Lib Go.Proofs.YtafmapadkpjliaaGreatDoorW.PrintWords Go.Proofs.YtafmapadkpjliaaGreatDoor.Sp
set_option linter.unusedVariables false
set_option linter.unusedSimpArgs false
set_option maxRecDepth 100000 in
set_option maxHeartbeats 2000000 in
theorem rin_c (s : ByteArray) (hmx : s.size ≤ maxLen) (a : Int) (w : World) : Calls Tryz.prog 51 #[.string s, .int .i64 a] w fun e w' => e = .returned (.bool (inS s a)) ∧ Below w.heap.size w w' := by
  have HG := Aside0.mk (rgen_c s hmx a w)
  have HA := Aside0.mk (fun (W : World) => ratt_c s hmx (genS s a) (1 - a) W)
  have HE := Aside0.mk (show inS s a = (decide (0 ≤ genS s a) && decide (0 < (attS s (genS s a) (1 - a)).length)) from rfl)
  clear hmx
  cases h0 : decide (0 ≤ genS s a)
  case false =>
    rw [h0] at HE
    have hn := of_decide_eq_false h0
    generalize genS s a = g at *
    clear HA
    go_enter Tryz.func51, Tryz.ntmps51
    go_wp2_with (go_at_call 84; refine HG.out.mono ?_; rintro e w1 ⟨rfl, hb⟩; have HB := Aside0.mk hb; clear hb)
    go_ret
    exact ⟨by rw [HE.out]; rfl, HB.out⟩
  case true =>
    rw [h0] at HE
    have hn := of_decide_eq_true h0
    have ha : a = 0 ∨ a = 1 := by
      by_cases ha : a = 0 ∨ a = 1
      · exact ha
      · unfold genS at hn; rw [if_neg ha] at hn; omega
    have a0 : 0 ≤ a := by omega
    have a1 : a ≤ 1 := by omega
    have hl := attS_len s (genS s a) (1 - a)
    generalize attS s (genS s a) (1 - a) = l at *
    generalize genS s a = g at *
    have HL := Aside0.mk hl
    have hl2 : (l.length : Int) ≤ 90 := by omega
    generalize hb1 : (1 - a : Int) = b at *
    clear hl ha h0
    go_enter Tryz.func51, Tryz.ntmps51
    go_wp2_with (first
      | (go_at_call 84; refine HG.out.mono ?_; rintro e w1 ⟨rfl, hb⟩; have HB := Aside0.mk hb; clear hb)
      | (go_at_call 86; refine (HA.out _ ).mono ?_; rintro e w2 ⟨v, rfl, hv, hb⟩; have HC := Aside0.mk (HB.out.trans (hb.mono HB.out.size)); clear hb; obtain ⟨A, cap, hv', _⟩ := hv.out; subst hv'; clear hv))
    go_ret
    refine ⟨ret_bool ?_, HC.out⟩
    rw [HE.out]
    first | (simp; done) | (simp; omega)
set_option maxRecDepth 100000 in
set_option maxHeartbeats 2000000 in
theorem rwell_c (p : Pos) (hmx : p.cells.size ≤ maxLen) (w : World) : Calls Tryz.prog 28 #[posV p] w fun e w' => e = .returned (.int .i64 (wellS p)) ∧ Below w.heap.size w w' := by
  have HK := Aside0.mk (fun W => rcheck_c p hmx W)
  have HF := Aside0.mk (fun (W : World) => rfac_c p.cells hmx W)
  have HI := Aside0.mk (fun (W : World) => rin_c p.cells hmx (1 - p.side) W)
  have HE := Aside0.mk (show wellS p = if checkP p ≠ 0 then checkP p else if facS p.cells = true then 4 else if inS p.cells (1 - p.side) = true then 5 else 0 from rfl)
  have hu := Tryz.underlying23
  have HW := Aside0.mk (WeAt.new w p)
  clear hmx
  by_cases hck : checkP p = 0
  case neg =>
    have h2 : (checkP p != 0) = true := by simpa using hck
    rw [if_pos hck] at HE
    clear hck HF HI
    generalize checkP p = ck at *
    go_enter Tryz.func28, Tryz.ntmps28
    go_wp2_with (go_at_call 34; refine (HK.out _).mono ?_; rintro e w1 ⟨rfl, hb⟩; have HB := Aside0.mk (HW.out.bel.trans (hb.mono HW.out.bel.size)); clear hb)
    go_ret
    exact ⟨ret_int HE.out.symm, HB.out⟩
  case pos =>
    rw [if_neg (by simpa using hck)] at HE
    have hsd : p.side = 0 ∨ p.side = 1 := by
      cases hok : argOk p
      · unfold checkP at hck; rw [hok] at hck; simp at hck
      · exact (argOk_yes hok).2.1
    have a0 : 0 ≤ p.side := by omega
    have a1 : p.side ≤ 1 := by omega
    rw [hck] at HK
    clear hck hsd
    generalize hb1 : (1 - p.side : Int) = b at *
    cases hf : facS p.cells
    case true =>
      rw [hf] at HF HE
      clear HI hf
      go_enter Tryz.func28, Tryz.ntmps28
      go_wp2_with (first
        | (go_at_call 34; refine (HK.out _).mono ?_; rintro e w1 ⟨rfl, hb⟩; have HB := Aside0.mk (HW.out.below hb); clear hb; obtain ⟨c0, c1, _⟩ := HB.out)
        | (go_at_call 50; refine (HF.out _ ).mono ?_; rintro e w2 ⟨rfl, hb⟩; have HC := Aside0.mk (HB.out.below hb); clear hb c0 c1))
      go_ret
      exact ⟨ret_int (by rw [HE.out]; rfl), HC.out.bel⟩
    case false =>
      rw [hf] at HF HE
      cases hi : inS p.cells b
      all_goals
        rw [hi] at HI HE
        clear hf hi
        go_enter Tryz.func28, Tryz.ntmps28
        go_wp2_with (first
          | (go_at_call 34; refine (HK.out _).mono ?_; rintro e w1 ⟨rfl, hb⟩; have HB := Aside0.mk (HW.out.below hb); clear hb; obtain ⟨c0, c1, _⟩ := HB.out)
          | (go_at_call 50; refine (HF.out _ ).mono ?_; rintro e w2 ⟨rfl, hb⟩; have HC := Aside0.mk (HB.out.below hb); clear hb c0 c1; obtain ⟨c0, c1, _⟩ := HC.out)
          | (go_at_call 51; refine (HI.out _ ).mono ?_; rintro e w3 ⟨rfl, hb⟩; have HD := Aside0.mk (HC.out.below hb); clear hb c0 c1))
        go_ret
        exact ⟨ret_int (by rw [HE.out]; rfl), HD.out.bel⟩
end Go.Proofs.YtafmapadkpjliaaGreatDoor.K

/- Walks: the reference's moves of a position. -/
namespace Go.Proofs.YtafmapadkpjliaaGreatDoor.K
open Go.RowKit Go.Lib Go.Proofs.YtafmapadkpjliaaGreatDoorW.PrintWords Go.Proofs.YtafmapadkpjliaaGreatDoor.Sp
set_option linter.unusedVariables false
set_option linter.unusedSimpArgs false
attribute [local go_sem] cel_get   -- for this text's walks alone
/-- The moves from a square to the first j squares. -/
def uptoM (s : ByteArray) (a j : Nat) : List Mv := ((List.range j).filter (fastN (cel s) a)).map (fun b => (a, b))
theorem uptoM_succ (s : ByteArray) (a j : Nat) : uptoM s a (j + 1) = uptoM s a j ++ (if fastN (cel s) a j = true then [(a, j)] else []) := by
  unfold uptoM
  rw [List.range_succ, List.filter_append, List.map_append]
  congr 1
  cases h : fastN (cel s) a j <;> simp [h]
theorem uptoM_len (s : ByteArray) (a j : Nat) : (uptoM s a j).length ≤ j := by
  unfold uptoM
  rw [List.length_map]
  exact Nat.le_trans (List.length_filter_le _ _) (by simp)
theorem fromM_all (s : ByteArray) (side : Int) (a : Nat) : fromM s side (fun _ => true) a = if sideN (cel s a) = side then uptoM s a 90 else [] := by
  unfold fromM uptoM allN
  split
  · simp
  · rfl
/-- What the reference's loops keep. -/
structure OfAt (w0 W : World) (v : Value) (l : List Mv) : Prop where
  own : OwnM W w0.heap.size v l
  bel : Below w0.heap.size w0 W
theorem OfAt.below {w0 W W' : World} {v : Value} {l : List Mv} (h : OfAt w0 W v l) (hb : Below W.heap.size W W') : OfAt w0 W' v l := ⟨h.own.below hb, below_go h.bel hb⟩
theorem OfAt.grown {w0 W W1 : World} {v v1 : Value} {l l1 : List Mv} (h : OfAt w0 W v l) (hg : W.grownBy W1 v.ownBlock) (ho : OwnM W1 w0.heap.size v1 l1) : OfAt w0 W1 v1 l1 :=
  ⟨ho, h.bel.grown hg h.bel.size (fun k hk => (h.own.lt k hk).1)⟩
set_option maxRecDepth 100000 in
set_option maxHeartbeats 4000000 in
theorem rof_moves (s : ByteArray) (hs : isBoard s = true) (side : Int) (w : World) :
    Calls Tryz.prog 52 #[.string s, .int .i64 side] w fun e w' => ∃ v, e = .returned v ∧ OwnM w' w.heap.size v (gathM s side (fun _ => true) 90) ∧ Below w.heap.size w w' := by
  have HSD := Aside0.mk (fun a W => rside_c (cel s a) (cel_lt s a) W)
  have HFA := Aside0.mk (fun a b ha hb W => rfast_c s hs a b ha hb W)
  have HSZ := Aside0.mk (board_size hs)
  obtain ⟨i0, hi0, hx⟩ := Option.map_eq_some_iff.1 info_move
  simp only [Prod.mk.injEq] at hx
  have HZ := Aside0.mk (⟨hi0, hx⟩ : _ ∧ _)
  clear hx hi0 hs
  go_enter Tryz.func52, Tryz.ntmps52
  go_wp2_with fail
  go_loopg [5, 6, 7] 90 (fun gg s5 s6 _ wr => ∃ i : Nat, s6 = .int .i64 (i : Int) ∧ i + gg = 90 ∧ Aside0 (OfAt w wr s5 (gathM s side (fun _ => true) i)))
  case atStart => exact ⟨0, rfl, by omega, ⟨⟨own_nil _ _ _ _, Below.refl _ _⟩⟩⟩
  case round =>
    obtain ⟨i, rfl, hi, HG⟩ := hrel
    cases gk with
    | zero =>
      have hn : ¬ ((i : Int) < 90) := by omega
      have HI := Aside0.mk (show i = 90 by omega)
      clear hi
      go_wp2_with fail
      go_ret
      refine ⟨_, rfl, ?_, HG.out.bel⟩
      have := HG.out.own
      rw [HI.out] at this
      exact this
    | succ g2 =>
      have hn : ((i : Int) < 90) := by omega
      have hi90 : i < 90 := by omega
      have HI := Aside0.mk (show i + 1 + g2 = 90 by omega)
      have hsz : (i : Int) < s.size := by rw [HSZ.out]; omega
      have HSC := Aside0.mk (gathM_succ s side (fun _ => true) i)
      have HFR := Aside0.mk (fromM_all s side i)
      have HFI := Aside0.mk (fun b hb W => HFA.out i b hi90 hb W)
      have HGL := Aside0.mk (gathM_len s side (fun _ => true) i)
      have HSI := Aside0.mk (fun W => HSD.out i W)
      have HI90 := Aside0.mk hi90
      clear hi hi90
      generalize hsd : sideN (cel s i) = sd at *
      cases hq : (sd != side)
      case true =>
        have HE := Aside0.mk (show fromM s side (fun _ => true) i = [] by rw [HFR.out, if_neg (by simpa using hq)])
        clear hsd
        go_wp2_with (go_at_call 46; refine (HSI.out _).mono ?_; rintro e w1 ⟨rfl, rfl⟩)
        go_roundg g2
        case measure => omega
        case rel =>
          refine ⟨i + 1, by go_num, HI.out, ⟨?_⟩⟩
          rw [HSC.out, HE.out, List.append_nil]
          exact HG.out
      case false =>
      have HE := Aside0.mk (show fromM s side (fun _ => true) i = uptoM s i 90 by rw [HFR.out, if_pos (by simpa using hq)])
      clear hsd
      go_wp2_with (go_at_call 46; refine (HSI.out _).mono ?_; rintro e w1 ⟨rfl, rfl⟩)
      go_loopg [5, 7] 90 (fun gg s5 s7 wr => ∃ j : Nat, s7 = .int .i64 (j : Int) ∧ j + gg = 90 ∧ Aside0 (OfAt w wr s5 (gathM s side (fun _ => true) i ++ uptoM s i j)))
      case atStart => exact ⟨0, rfl, by omega, ⟨by rw [show uptoM s i 0 = [] from rfl, List.append_nil]; exact HG.out⟩⟩
      case round =>
      clear HG
      obtain ⟨j, rfl, hj, HG⟩ := hrel
      cases gk with
      | zero =>
        have hjn : ¬ ((j : Int) < 90) := by omega
        have HJ := Aside0.mk (show j = 90 by omega)
        clear hj
        go_wp2_with fail
        go_roundg g2
        case measure => omega
        case rel =>
          refine ⟨i + 1, by go_num, HI.out, ⟨?_⟩⟩
          have := HG.out
          rw [HJ.out, ← HE.out, ← HSC.out] at this
          exact this
      | succ g3 =>
        have hjn : ((j : Int) < 90) := by omega
        have HJ := Aside0.mk (show j + 1 + g3 = 90 by omega)
        have HFJ := Aside0.mk (fun W => HFI.out j (by omega) W)
        have HUS := Aside0.mk (uptoM_succ s i j)
        have HUL := Aside0.mk (uptoM_len s i j)
        clear hj
        cases hf : fastN (cel s) i j
        case false =>
          rw [hf] at HFJ HUS
          go_wp2_with (go_at_call 47; refine (HFJ.out _).mono ?_; rintro e w3 ⟨rfl, rfl⟩)
          go_roundg g3
          case measure => omega
          case rel =>
            refine ⟨j + 1, by go_num, HJ.out, ⟨?_⟩⟩
            rw [HUS.out, if_neg (by simp), List.append_nil]
            exact HG.out
        case true =>
          rw [hf] at HFJ HUS
          have HNW := Aside0.mk (show gathM s side (fun _ => true) i ++ uptoM s i (j + 1) = gathM s side (fun _ => true) i ++ uptoM s i j ++ [(i, j)] by rw [HUS.out, if_pos rfl, List.append_assoc])
          have HLN := Aside0.mk (show (gathM s side (fun _ => true) i ++ uptoM s i j).length ≤ 8190 by rw [List.length_append]; have := HGL.out; have := HUL.out; have := HI90.out; have := HJ.out; omega)
          generalize gathM s side (fun _ => true) i ++ uptoM s i j = L at *
          go_wp2_with (first | (go_at_call 47; refine (HFJ.out _).mono ?_; rintro e w3 ⟨rfl, rfl⟩) | (at_builtin; refine hold ?_))
          refine Hold.go ?_
          refine wpList_append_lies _ (by rfl) _ _ _ (by rfl) w.heap.size 36 i0 _ 2 16 Tryz.underlying29 HZ.out.1 HZ.out.2.1 HZ.out.2.2.1 HZ.out.2.2.2 rfl (by omega) _ L.length (flatM L) (by rfl) (HG.out.own.below (below_alloc (Below.refl _ _) _)) ⟨_, 0, none⟩ 1 1 (mvC (i, j)) (by rfl) (by rfl) (World.news_of_block (cs := #[.int .i64 (i : Int), .int .i64 (j : Int)]) (t := 36) (fr := (0, 0)) (news_own _ _)) (by simp [Value.oneCell', mvC]) (by omega) (by have := HLN.out; unfold maxLen; omega) (by have := HLN.out; omega) (by have := HG.out.bel.size; simp; omega) _ rfl ?_
          intro gg cap1 w1 hown1 hgrow hat hlt1
          have HO := Aside0.mk (show OfAt w w1 (.slice (some ⟨gg, 0, none⟩) (L.length + 1) cap1) (L ++ [(i, j)]) from (HG.out.below (below_alloc (Below.refl _ _) _)).grown hgrow (by unfold OwnM; rw [flatM_append, List.length_append]; exact hown1))
          clear hown1 hgrow hat hlt1 HG
          go_wp2_with fail
          go_roundg g3
          case measure => omega
          case rel => exact ⟨j + 1, by go_num, HJ.out, ⟨by rw [HNW.out]; exact HO.out⟩⟩
end Go.Proofs.YtafmapadkpjliaaGreatDoor.K

/- A row of moves beside one that grows. -/
namespace Go.Proofs.YtafmapadkpjliaaGreatDoor.K
open Go.RowKit Go.Lib Go.Proofs.YtafmapadkpjliaaGreatDoorW.PrintWords Go.Proofs.YtafmapadkpjliaaGreatDoor.Sp
set_option linter.unusedVariables false
set_option linter.unusedSimpArgs false
/-- What Captures' loop keeps. -/
structure CaAt (w0 W : World) (p : Pos) (v1 v : Value) (l k : List Mv) : Prop where
  box : BoxP W w0.heap.size p
  m1 : MvAt W w0.heap.size v1 l
  own : OwnM W w0.heap.size v k
  far : ∀ g, v.ownBlock = some g → g ≠ w0.heap.size ∧ (l = [] ∨ v1.ownBlock ≠ some g)
  bel : Below w0.heap.size w0 W
theorem CaAt.below {w0 W W' : World} {p : Pos} {v1 v : Value} {l k : List Mv} (h : CaAt w0 W p v1 v l k) (hb : Below W.heap.size W W') : CaAt w0 W' p v1 v l k :=
  ⟨h.box.below hb, h.m1.below hb, h.own.below hb, h.far, below_go h.bel hb⟩
theorem MvAt.other {W W' : World} {B : Nat} {v : Value} {l : List Mv} {row : Option Nat} (h : MvAt W B v l) (hg : W.grownBy W' row) (hne : ∀ g, row = some g → l = [] ∨ v.ownBlock ≠ some g) : MvAt W' B v l := by
  obtain ⟨A, cap, hv, h⟩ := h.out
  refine ⟨A, cap, hv, ?_⟩
  rcases h with h | ⟨g, hA, hB, hlt, hx⟩
  · exact .inl h
  · by_cases hl : l = []
    · exact .inl hl
    have hr : some g ≠ row := fun he => (hne g he.symm).elim hl (fun h => h (by rw [hv, hA]; rfl))
    exact .inr ⟨g, hA, hB, Nat.lt_of_lt_of_le hlt hg.size, fun i hi => ⟨(hg.cell_far ⟨g, i * 2, none⟩ hlt hr).trans (hx i hi).1, (hg.cell_far ⟨g, i * 2 + 1, none⟩ hlt hr).trans (hx i hi).2⟩⟩
theorem BoxP.other {W W' : World} {b : Nat} {p : Pos} {row : Option Nat} (h : BoxP W b p) (hg : W.grownBy W' row) (hne : some b ≠ row) : BoxP W' b p := by
  have hlt : b < W.heap.size := World.block_lt_of_cell? W ⟨b, 0, none⟩ h.c0
  exact ⟨(hg.cell_far ⟨b, 0, none⟩ hlt hne).trans h.c0, (hg.cell_far ⟨b, 1, none⟩ hlt hne).trans h.c1, (hg.cell_far ⟨b, 2, none⟩ hlt hne).trans h.c2, (hg.cell_far ⟨b, 3, none⟩ hlt hne).trans h.c3⟩
theorem CaAt.grown {w0 W W1 : World} {p : Pos} {v1 v : Value} {l k k1 : List Mv} {gg n cap : Nat} (h : CaAt w0 W p v1 v l k) (hg : W.grownBy W1 v.ownBlock) (ho : OwnM W1 w0.heap.size (.slice (some ⟨gg, 0, none⟩) n cap) k1) (hat : v.ownBlock = some gg ∨ gg = W.heap.size) : CaAt w0 W1 p v1 (.slice (some ⟨gg, 0, none⟩) n cap) l k1 := by
  have hlt : w0.heap.size < W.heap.size := World.block_lt_of_cell? W ⟨w0.heap.size, 0, none⟩ h.box.c0
  refine ⟨h.box.other hg (fun he => (h.far _ he.symm).1 rfl), h.m1.other hg (fun g he => (h.far g he).2), ho, ?_, h.bel.grown hg h.bel.size (fun k hk => (h.own.lt k hk).1)⟩
  intro g he
  simp only [Value.ownBlock, Option.some.injEq] at he
  subst he
  rcases hat with hat | hat
  · exact h.far _ hat
  · subst hat
    obtain ⟨A, c, rfl, hm⟩ := h.m1.out
    rcases hm with hm | ⟨g2, rfl, _, hlt2, _⟩
    · exact ⟨by omega, .inl hm⟩
    · refine ⟨by omega, .inr fun he => ?_⟩
      simp only [Value.ownBlock, Option.some.injEq] at he
      omega
end Go.Proofs.YtafmapadkpjliaaGreatDoor.K

/- Walks: the reference's Safe, Of (layer 8). -/
namespace Go.Proofs.YtafmapadkpjliaaGreatDoor.K
open Go.RowKit Go.Lib Go.Proofs.YtafmapadkpjliaaGreatDoorW.PrintWords Go.Proofs.YtafmapadkpjliaaGreatDoor.Sp
set_option linter.unusedVariables false
set_option linter.unusedSimpArgs false
attribute [local go_sem] cel_get   -- for this text's walks alone
set_option maxRecDepth 100000 in
set_option maxHeartbeats 2000000 in
theorem rsafe_c (s : ByteArray) (hmx : s.size ≤ maxLen) (a : Int) (w : World) : Calls Tryz.prog 53 #[.string s, .int .i64 a] w fun e w' => e = .returned (.bool (safeR s a)) ∧ Below w.heap.size w w' := by
  have HF := Aside0.mk (fun (W : World) => rfac_c s hmx W)
  have HI := Aside0.mk (fun (W : World) => rin_c s hmx a W)
  have HE := Aside0.mk (show safeR s a = (!facS s && !inS s a) from rfl)
  generalize facS s = f at *
  generalize inS s a = i at *
  clear hmx
  cases f
  all_goals
    go_enter Tryz.func53, Tryz.ntmps53
    go_wp2_with (first
      | (go_at_call 50; refine (HF.out _).mono ?_; rintro e w1 ⟨rfl, hb⟩; have HB := Aside0.mk hb; clear hb)
      | (go_at_call 51; refine (HI.out _).mono ?_; rintro e w2 ⟨rfl, hb⟩; have HC := Aside0.mk (below_go HB.out hb); clear hb))
    go_ret
    first
    | (refine ⟨ret_bool ?_, HC.out⟩; rw [HE.out]; simp)
    | (refine ⟨ret_bool ?_, HB.out⟩; rw [HE.out]; rfl)
/-- A row of moves that is read beside one that grows. -/
structure Ca2At (w0 W : World) (v1 v : Value) (l k : List Mv) : Prop where
  m1 : MvAt W w0.heap.size v1 l
  own : OwnM W w0.heap.size v k
  far : ∀ g, v.ownBlock = some g → l = [] ∨ v1.ownBlock ≠ some g
  bel : Below w0.heap.size w0 W
theorem Ca2At.below {w0 W W' : World} {v1 v : Value} {l k : List Mv} (h : Ca2At w0 W v1 v l k) (hb : Below W.heap.size W W') : Ca2At w0 W' v1 v l k :=
  ⟨h.m1.below hb, h.own.below hb, h.far, below_go h.bel hb⟩
theorem Ca2At.grown {w0 W W1 : World} {v1 v : Value} {l k k1 : List Mv} {gg n cap : Nat} (h : Ca2At w0 W v1 v l k) (hg : W.grownBy W1 v.ownBlock) (ho : OwnM W1 w0.heap.size (.slice (some ⟨gg, 0, none⟩) n cap) k1) (hat : v.ownBlock = some gg ∨ gg = W.heap.size) : Ca2At w0 W1 v1 (.slice (some ⟨gg, 0, none⟩) n cap) l k1 := by
  refine ⟨h.m1.other hg (fun g he => h.far g he), ho, ?_, h.bel.grown hg h.bel.size (fun k hk => (h.own.lt k hk).1)⟩
  intro g he
  simp only [Value.ownBlock, Option.some.injEq] at he
  subst he
  rcases hat with hat | hat
  · exact h.far _ hat
  · subst hat
    obtain ⟨A, c, rfl, hm⟩ := h.m1.out
    rcases hm with hm | ⟨g2, rfl, _, hlt2, _⟩
    · exact .inl hm
    · refine .inr fun he => ?_
      simp only [Value.ownBlock, Option.some.injEq] at he
      omega
/-- The cells of one move of a row. -/
theorem MvAt.cell {W : World} {B g cap : Nat} {l : List Mv} (h : MvAt W B (.slice (some ⟨g, 0, none⟩) l.length cap) l) (i : Nat) (hi : i < l.length) : W.cell? ⟨g, i * 2, none⟩ = some (.int .i64 (l[i].1 : Int)) ∧ W.cell? ⟨g, i * 2 + 1, none⟩ = some (.int .i64 (l[i].2 : Int)) := by
  obtain ⟨g1, cap1', hA1, _, hg1, hx1⟩ := h.at (fun h => by rw [h] at hi; simp at hi)
  simp only [Value.slice.injEq, Option.some.injEq, Addr.mk.injEq, true_and, and_true] at hA1
  obtain ⟨rfl, rfl⟩ := hA1
  exact hx1 i hi
theorem gathM_mem {s : ByteArray} {side : Int} {q : Nat → Bool} {n : Nat} {m : Mv} (hn : n ≤ 90) (h : m ∈ gathM s side q n) : m.1 < 90 ∧ m.2 < 90 := by
  unfold gathM at h
  obtain ⟨a, ha, hm⟩ := List.mem_flatMap.1 h
  unfold fromM at hm
  split at hm
  · obtain ⟨b, hb, rfl⟩ := List.mem_map.1 hm
    exact ⟨by have := List.mem_range.1 ha; show a < 90; omega, allN_lt _ _ b (List.mem_filter.1 hb).1⟩
  · simp at hm
set_option maxRecDepth 100000 in
set_option maxHeartbeats 4000000 in
theorem rof8_c (s : ByteArray) (hs : isBoard s = true) (side : Int) (w : World) :
    Calls Tryz.prog 29 #[.string s, .int .i64 side] w fun e w' => ∃ v, e = .returned v ∧ OwnM w' w.heap.size v (legalR s side) ∧ Below w.heap.size w w' := by
  have HOF := Aside0.mk (fun W => rof_moves s hs side W)
  have hsz := board_size hs
  have HMV := Aside0.mk (fun (a b : Nat) (ha : a < 90) (hb : b < 90) W => rmoved_c s hsz a b ha hb W)
  have HKD := Aside0.mk (fun (b : Nat) W => rkind_c (cel s b) (cel_lt _ _) W)
  have HSF := Aside0.mk (fun (a b : Nat) W => rsafe_c (movedB s a b) (by rw [moved_size, hsz]; unfold maxLen; omega) side W)
  have HE := Aside0.mk (show legalR s side = (gathM s side (fun _ => true) 90).filter (mayR s side) from rfl)
  have HMR := Aside0.mk (fun m => show mayR s side m = (kindN (cel s m.2) != 75 && safeR (movedB s m.1 m.2) side) from rfl)
  have HMEM := Aside0.mk (fun m (h : m ∈ gathM s side (fun _ => true) 90) => gathM_mem (Nat.le_refl 90) h)
  have HLL := Aside0.mk (gathM_len s side (fun _ => true) 90)
  have HSZ := Aside0.mk hsz
  obtain ⟨i0, hi0, hx⟩ := Option.map_eq_some_iff.1 info_move
  simp only [Prod.mk.injEq] at hx
  have HZ := Aside0.mk (⟨hi0, hx⟩ : _ ∧ _)
  have hu2 := Tryz.underlying36
  generalize legalR s side = lr at *
  generalize gathM s side (fun _ => true) 90 = l at *
  generalize mayR s side = mr at *
  clear hx hi0 hs hsz
  go_enter Tryz.func29, Tryz.ntmps29
  go_wp2_with fail
  refine (HOF.out _).mono ?_
  rintro e w1 ⟨v1, rfl, h1, hb⟩
  have HC := Aside0.mk (show Ca2At w w1 v1 (.slice none 0 0) l [] from ⟨h1.reads, own_nil _ _ _ _, fun g hg => by simp [Value.ownBlock] at hg, hb⟩)
  clear h1 hb
  obtain ⟨A1, cap1, rfl⟩ := HC.out.m1.form
  go_wp2_with fail
  go_loopg [6, 7] l.length (fun gg s6 s7 wr => ∃ i : Nat, s7 = .int .i64 (i : Int) ∧ i + gg = l.length ∧ Aside0 (Ca2At w wr (.slice A1 l.length cap1) s6 l ((l.take i).filter mr)))
  case atStart => exact ⟨0, rfl, by omega, HC⟩
  case round =>
    clear HC
    obtain ⟨i, rfl, hi, HC⟩ := hrel
    cases gk with
    | zero =>
      have hn : ¬ ((i : Int) < (l.length : Int)) := by omega
      have HI := Aside0.mk (show i = l.length by omega)
      clear hi
      go_wp2_with fail
      go_ret
      refine ⟨_, rfl, ?_, HC.out.bel⟩
      have := HC.out.own
      rw [HI.out, List.take_length, ← HE.out] at this
      exact this
    | succ g =>
      have hn : (i : Int) < (l.length : Int) := by omega
      have hil : i < l.length := by omega
      have hib : (i : Int) ≤ 8100 := by have := HLL.out; omega
      have HI := Aside0.mk (show i + 1 + g = l.length by omega)
      have HTF := Aside0.mk (take_filter l mr i hil)
      have HNI := Aside0.mk (show ((l.take i).filter mr).length ≤ 8100 from Nat.le_trans (List.length_filter_le _ _) (Nat.le_trans (by rw [List.length_take]; omega) HLL.out))
      obtain ⟨hma, hmb⟩ := HMEM.out _ (List.getElem_mem hil)
      obtain ⟨g1, cap1', hA1, _, hg1, hx1⟩ := HC.out.m1.at (fun h => by rw [h] at hil; simp at hil)
      simp only [Value.slice.injEq, true_and] at hA1
      obtain ⟨rfl, rfl⟩ := hA1
      obtain ⟨x0, x1⟩ := hx1 i hil
      have HMM := Aside0.mk (HMR.out l[i])
      have HXC := Aside0.mk (fun W (h : MvAt W w.heap.size (.slice (some ⟨g1, 0, none⟩) l.length cap1) l) => h.cell i hil)
      clear hx1 hi
      generalize ((l.take i).filter mr) = fl at *
      generalize l[i] = m at *
      obtain ⟨ma, mb⟩ := m
      simp only at hma hmb x0 x1
      have hm2 : (mb : Int) < (s.size : Int) := by rw [HSZ.out]; omega
      have HMV1 := Aside0.mk (HMV.out ma mb hma hmb)
      have HKD1 := Aside0.mk (HKD.out mb)
      have HSF1 := Aside0.mk (HSF.out ma mb)
      have hkq : ((kindN (cel s mb) : Int) != 75) = !(kindN (cel s mb) == 75) := by rw [bne, kindN_q]
      clear hma hmb hil
      cases hk : (kindN (cel s mb) == 75)
      case true =>
        rw [hk] at hkq
        have HNO := Aside0.mk (show mr (ma, mb) = false by rw [HMM.out]; simp only [bne, hk]; rfl)
        clear hk HMV1 HSF1
        generalize kindN (cel s mb) = kd at *
        go_wp2_with (go_at_call 48; refine (HKD1.out _).mono ?_; rintro e w2 ⟨rfl, rfl⟩)
        go_roundg g
        case measure => omega
        case rel =>
          refine ⟨i + 1, by go_num, by have := HI.out; omega, ⟨?_⟩⟩
          rw [HTF.out, if_neg (by rw [HNO.out]; simp), List.append_nil]
          exact HC.out
      case false =>
        rw [hk] at hkq
        have HYE := Aside0.mk (show mr (ma, mb) = safeR (movedB s ma mb) side by rw [HMM.out]; simp only [bne, hk]; rfl)
        clear hk
        generalize kindN (cel s mb) = kd at *
        generalize safeR (movedB s ma mb) side = sf at *
        generalize movedB s ma mb = mv at *
        cases sf
        case false =>
          go_wp2_with (first
            | (go_at_call 48; refine (HKD1.out _).mono ?_; rintro e w2 ⟨rfl, rfl⟩)
            | (go_at_call 49; refine (HMV1.out _).mono ?_; rintro e w3 ⟨rfl, hb⟩; have HC3 := Aside0.mk (HC.out.below hb); clear hb)
            | (go_at_call 53; refine (HSF1.out _).mono ?_; rintro e w4 ⟨rfl, hb⟩; have HC4 := Aside0.mk (HC3.out.below hb); clear hb))
          go_roundg g
          case measure => omega
          case rel =>
            refine ⟨i + 1, by go_num, by have := HI.out; omega, ⟨?_⟩⟩
            rw [HTF.out, if_neg (by rw [HYE.out]; simp), List.append_nil]
            exact HC4.out
        case true =>
          go_wp2_with (first
            | (go_at_call 48; refine (HKD1.out _).mono ?_; rintro e w2 ⟨rfl, rfl⟩)
            | (go_at_call 49; refine (HMV1.out _).mono ?_; rintro e w3 ⟨rfl, hb⟩; have HC3 := Aside0.mk (HC.out.below hb); clear hb)
            | (go_at_call 53; refine (HSF1.out _).mono ?_; rintro e w4 ⟨rfl, hb⟩; have HC4 := Aside0.mk (HC3.out.below hb); clear hb x0 x1; obtain ⟨x0, x1⟩ := HXC.out _ HC4.out.m1)
            | (at_builtin; refine hold ?_))
          refine Hold.go ?_
          refine wpList_append_lies _ (by rfl) _ _ _ (by rfl) w.heap.size 36 i0 _ 2 16 Tryz.underlying29 HZ.out.1 HZ.out.2.1 HZ.out.2.2.1 HZ.out.2.2.2 rfl (by omega) _ fl.length (flatM fl) (by rfl) (HC4.out.own.below (below_alloc (Below.refl _ _) _)) ⟨_, 0, none⟩ 1 1 (mvC (ma, mb)) (by rfl) (by rfl) (World.news_of_block (cs := #[.int .i64 (ma : Int), .int .i64 (mb : Int)]) (t := 36) (fr := (0, 0)) (news_own _ _)) (by simp [Value.oneCell', mvC]) (by omega) (by have := HNI.out; unfold maxLen; omega) (by have := HNI.out; omega) (by have := HC4.out.bel.size; simp; omega) _ rfl ?_
          intro gg cap2 w5 hown1 hgrow hat hlt1
          have HO := Aside0.mk (show Ca2At w w5 (.slice (some ⟨g1, 0, none⟩) l.length cap1) (.slice (some ⟨gg, 0, none⟩) (fl.length + 1) cap2) l (fl ++ [(ma, mb)]) from (HC4.out.below (below_alloc (Below.refl _ _) _)).grown hgrow (by unfold OwnM; rw [flatM_append, List.length_append]; exact hown1) hat)
          clear hown1 hgrow hat hlt1 HC4
          go_wp2_with fail
          go_roundg g
          case measure => omega
          case rel =>
            refine ⟨i + 1, by go_num, by have := HI.out; omega, ⟨?_⟩⟩
            rw [HTF.out, if_pos HYE.out]
            exact HO.out
end Go.Proofs.YtafmapadkpjliaaGreatDoor.K

/- Plain law: seen from the other side a piece reaches the same. -/
namespace Go.Proofs.YtafmapadkpjliaaGreatDoor.Sp

theorem sideV (x : Nat) : sideN x = -1 ∨ sideN x = 0 ∨ sideN x = 1 := by
  unfold sideN
  cases isRed x with
  | true => simp
  | false => cases isBlack x <;> simp
/-- A piece of the other side. -/
def swapN (x : Nat) : Nat := if isRed x then x + 32 else if isBlack x then x - 32 else x
/-- A board from the other side. -/
def turnC (c : Nat → Nat) (n : Nat) : Nat := swapN (c (89 - n))

theorem swap_facts : ∀ x ∈ letters, swapN x ∈ letters ∧ (swapN x = 46 ↔ x = 46) ∧ kindN (swapN x) = kindN x ∧ sideN (swapN x) = (if sideN x = -1 then -1 else 1 - sideN x) ∧ swapN (swapN x) = x := by decide
theorem may_turn : ∀ x ∈ letters, ∀ n : Fin 90, mayN (swapN x) (89 - n.1) = mayN x n.1 := by decide +kernel
theorem away_turn : ∀ a b : Fin 90, away ((89 - a.1) % 9) ((89 - b.1) % 9) = away (a.1 % 9) (b.1 % 9) ∧ away ((89 - a.1) / 9) ((89 - b.1) / 9) = away (a.1 / 9) (b.1 / 9) ∧ ((89 - a.1) / 9 = (89 - b.1) / 9 ↔ a.1 / 9 = b.1 / 9) ∧ ((89 - a.1) % 9 = (89 - b.1) % 9 ↔ a.1 % 9 = b.1 % 9) := by decide +kernel
theorem betwL_turn : ∀ a b : Fin 90, betwL (89 - a.1) (89 - b.1) = ((betwL a.1 b.1).map (fun i => 89 - i)).reverse ∧ (∀ i ∈ betwL a.1 b.1, i < 90) := by decide +kernel
theorem betwL_sym : ∀ a b : Fin 90, betwL a.1 b.1 = betwL b.1 a.1 := by decide +kernel
theorem leg_turn : ∀ a b : Fin 90, ((away (a.1 % 9) (b.1 % 9) == 1 && away (a.1 / 9) (b.1 / 9) == 2) || (away (a.1 % 9) (b.1 % 9) == 2 && away (a.1 / 9) (b.1 / 9) == 1)) = true → legN (89 - a.1) (89 - b.1) = 89 - legN a.1 b.1 ∧ legN a.1 b.1 < 90 := by decide +kernel
theorem mid_turn : ∀ a b : Fin 90, away (a.1 % 9) (b.1 % 9) = 2 → away (a.1 / 9) (b.1 / 9) = 2 → ((89 - a.1) + (89 - b.1)) / 2 = 89 - (a.1 + b.1) / 2 ∧ (a.1 + b.1) / 2 < 90 := by decide +kernel
theorem pawn_turn : ∀ s : Fin 2, ∀ a b : Fin 90, pawnN (1 - ((s.1 : Nat) : Int)) (89 - a.1) (89 - b.1) = pawnN ((s.1 : Nat) : Int) a.1 b.1 := by decide +kernel

theorem turnC_at (c : Nat → Nat) {n : Nat} (hn : n < 90) : turnC c (89 - n) = swapN (c n) := by
  unfold turnC
  congr 2
  omega
section
variable {c : Nat → Nat} (hc : ∀ n, n < 90 → c n ∈ letters)
include hc
theorem turnC_letters {n : Nat} (hn : n < 90) : turnC c n ∈ letters := by
  unfold turnC
  exact (swap_facts _ (hc _ (by omega))).1
theorem turnC_empty {n : Nat} (hn : n < 90) : (turnC c (89 - n) == 46) = (c n == 46) := by
  rw [turnC_at c hn, Bool.eq_iff_iff, beq_iff_eq, beq_iff_eq]
  exact (swap_facts _ (hc n hn)).2.1
theorem betw_turn {a b : Nat} (ha : a < 90) (hb : b < 90) : betwN (turnC c) (89 - a) (89 - b) = betwN c a b := by
  obtain ⟨_, _, h3, h4⟩ := away_turn ⟨a, ha⟩ ⟨b, hb⟩
  obtain ⟨h5, h6⟩ := betwL_turn ⟨a, ha⟩ ⟨b, hb⟩
  simp only at h3 h4 h5 h6
  unfold betwN
  rw [h5]
  have he : (89 - a = 89 - b) ↔ a = b := by omega
  by_cases hab : a = b
  · rw [if_pos hab, if_pos (he.2 hab)]
  rw [if_neg hab, if_neg (fun h => hab (he.1 h))]
  by_cases hline : a / 9 = b / 9 ∨ a % 9 = b % 9
  · rw [if_pos hline, if_pos (hline.imp h3.2 h4.2)]
    rw [List.countP_reverse, List.countP_map]
    congr 1
    apply List.countP_congr
    intro i hi
    simp only [Function.comp]
    have := turnC_empty hc (h6 i hi)
    rw [bne, this, bne]
  · rw [if_neg hline, if_neg (fun h => hline (h.imp h3.1 h4.1))]
omit hc in
theorem betw_sym (c : Nat → Nat) {a b : Nat} (ha : a < 90) (hb : b < 90) : betwN c a b = betwN c b a := by
  unfold betwN
  rw [betwL_sym ⟨a, ha⟩ ⟨b, hb⟩]
  by_cases hab : a = b
  · rw [if_pos hab, if_pos hab.symm]
  · rw [if_neg hab, if_neg (fun h : b = a => hab h.symm)]
    by_cases hline : a / 9 = b / 9 ∨ a % 9 = b % 9
    · rw [if_pos hline, if_pos (hline.imp Eq.symm Eq.symm)]
    · rw [if_neg hline, if_neg (fun h => hline (h.imp Eq.symm Eq.symm))]
theorem can_turn {a b : Nat} (ha : a < 90) (hb : b < 90) (hs : 0 ≤ sideN (c a)) : canN (turnC c) (89 - a) (89 - b) = canN c a b := by
  obtain ⟨f1, f2, f3, f4, f5⟩ := swap_facts _ (hc a ha)
  obtain ⟨w1, w2, _, _⟩ := away_turn ⟨a, ha⟩ ⟨b, hb⟩
  have hm := may_turn _ (hc a ha) ⟨b, hb⟩
  have hl := leg_turn ⟨a, ha⟩ ⟨b, hb⟩
  have hmid := mid_turn ⟨a, ha⟩ ⟨b, hb⟩
  simp only at w1 w2 hm hl hmid
  unfold canN horseN
  rw [turnC_at c ha, f3, w1, w2, hm, betw_turn hc ha hb, turnC_empty hc hb]
  have hbn : (turnC c (89 - b) != 46) = (c b != 46) := by rw [bne, turnC_empty hc hb, bne]
  rw [hbn]
  by_cases k1 : kindN (c a) = 75
  · rw [if_pos k1, if_pos k1]
  rw [if_neg k1, if_neg k1]
  by_cases k2 : kindN (c a) = 65
  · rw [if_pos k2, if_pos k2]
  rw [if_neg k2, if_neg k2]
  by_cases k3 : kindN (c a) = 66
  · rw [if_pos k3, if_pos k3]
    by_cases e1 : away (a % 9) (b % 9) = 2
    · by_cases e2 : away (a / 9) (b / 9) = 2
      · obtain ⟨m1, m2⟩ := hmid e1 e2
        rw [m1, turnC_empty hc m2]
      · rw [show (away (a / 9) (b / 9) == 2) = false from beq_eq_false_iff_ne.2 e2]; simp
    · rw [show (away (a % 9) (b % 9) == 2) = false from beq_eq_false_iff_ne.2 e1]; simp
  rw [if_neg k3, if_neg k3]
  by_cases k4 : kindN (c a) = 78
  · rw [if_pos k4, if_pos k4]
    cases hp : ((away (a % 9) (b % 9) == 1 && away (a / 9) (b / 9) == 2) || (away (a % 9) (b % 9) == 2 && away (a / 9) (b / 9) == 1)) with
    | false => simp
    | true =>
      obtain ⟨m1, m2⟩ := hl hp
      rw [m1, turnC_empty hc m2]
  rw [if_neg k4, if_neg k4]
  by_cases k5 : kindN (c a) = 82
  · rw [if_pos k5, if_pos k5]
  rw [if_neg k5, if_neg k5]
  by_cases k6 : kindN (c a) = 67
  · rw [if_pos k6, if_pos k6]
  rw [if_neg k6, if_neg k6, f4]
  have hside : sideN (c a) = 0 ∨ sideN (c a) = 1 := by
    have := sideV (c a)
    omega
  rw [if_neg (by omega)]
  rcases hside with h | h <;> rw [h]
  · exact pawn_turn 0 ⟨a, ha⟩ ⟨b, hb⟩
  · exact pawn_turn 1 ⟨a, ha⟩ ⟨b, hb⟩
theorem fast_turn {a b : Nat} (ha : a < 90) (hb : b < 90) : fastN (turnC c) (89 - a) (89 - b) = fastN c a b := by
  obtain ⟨_, _, _, fa, _⟩ := swap_facts _ (hc a ha)
  obtain ⟨_, _, _, fb, _⟩ := swap_facts _ (hc b hb)
  have sa := sideV (c a)
  have sb := sideV (c b)
  unfold fastN
  by_cases h : 0 ≤ sideN (c a)
  · rw [can_turn hc ha hb h, turnC_at c ha, turnC_at c hb, fa, fb]
    rcases sa with sa | sa | sa <;> rcases sb with sb | sb | sb <;> rw [sa, sb] <;> simp <;> omega
  · rw [turnC_at c ha, fa, if_pos (by omega)]
    simp [h]
end
end Go.Proofs.YtafmapadkpjliaaGreatDoor.Sp

/- Plain law: a board with one square changed: what stands between, going back, and the pawn's few squares. -/
namespace Go.Proofs.YtafmapadkpjliaaGreatDoor.Sp

theorem fast_congr {c d : Nat → Nat} (h : ∀ n, n < 90 → c n = d n) {a b : Nat} (ha : a < 90) (hb : b < 90) (_ : ∀ n, n < 90 → c n ∈ letters) : fastN c a b = fastN d a b := by
  have e1 := h a ha
  have e2 := h b hb
  have hbt : betwN c a b = betwN d a b := by
    unfold betwN
    have : ∀ i ∈ betwL a b, i < 90 := (betwL_turn ⟨a, ha⟩ ⟨b, hb⟩).2
    rw [List.countP_congr (p := fun i => c i != 46) (q := fun i => d i != 46) (fun i hi => by rw [h i (this i hi)])]
  have hleg := leg_turn ⟨a, ha⟩ ⟨b, hb⟩
  have hmid := mid_turn ⟨a, ha⟩ ⟨b, hb⟩
  simp only at hleg hmid
  unfold fastN canN horseN
  rw [hbt, e1, e2]
  congr 1
  cases hp : ((away (a % 9) (b % 9) == 1 && away (a / 9) (b / 9) == 2) || (away (a % 9) (b % 9) == 2 && away (a / 9) (b / 9) == 1)) with
  | true =>
    rw [h _ (hleg hp).2]
    by_cases q1 : away (a % 9) (b % 9) = 2
    · by_cases q2 : away (a / 9) (b / 9) = 2
      · rw [h _ (hmid q1 q2).2]
      · rw [show (away (a / 9) (b / 9) == 2) = false from beq_eq_false_iff_ne.2 q2]; simp
    · rw [show (away (a % 9) (b % 9) == 2) = false from beq_eq_false_iff_ne.2 q1]; simp
  | false =>
    simp only [Bool.false_and]
    by_cases q1 : away (a % 9) (b % 9) = 2
    · by_cases q2 : away (a / 9) (b / 9) = 2
      · rw [h _ (hmid q1 q2).2]
      · rw [show (away (a / 9) (b / 9) == 2) = false from beq_eq_false_iff_ne.2 q2]; simp
    · rw [show (away (a % 9) (b % 9) == 2) = false from beq_eq_false_iff_ne.2 q1]; simp
theorem betw_congr {c d : Nat → Nat} (h : ∀ n, n < 90 → c n = d n) {a b : Nat} (ha : a < 90) (hb : b < 90) : betwN c a b = betwN d a b := by
  unfold betwN
  have : ∀ i ∈ betwL a b, i < 90 := (betwL_turn ⟨a, ha⟩ ⟨b, hb⟩).2
  rw [List.countP_congr (p := fun i => c i != 46) (q := fun i => d i != 46) (fun i hi => by rw [h i (this i hi)])]
theorem betwL_in : ∀ a b : Fin 90, ∀ i ∈ betwL a.1 b.1, i ≠ a.1 ∧ i ≠ b.1 ∧ i < 90 := by decide +kernel
theorem betw_line : ∀ a b : Nat, ∀ c : Nat → Nat, 0 ≤ betwN c a b → a ≠ b := by
  intro a b c h e
  rw [betwN, if_pos e] at h
  omega
theorem mid_in : ∀ a b : Fin 90, away (a.1 % 9) (b.1 % 9) = 2 → away (a.1 / 9) (b.1 / 9) = 2 → (a.1 + b.1) / 2 ≠ a.1 ∧ (a.1 + b.1) / 2 ≠ b.1 ∧ (a.1 + b.1) / 2 < 90 := by decide +kernel
theorem away_sym (a b : Nat) : away a b = away b a := by unfold away; split <;> split <;> omega
/-- A board with x on n. -/
def putC (c : Nat → Nat) (n x : Nat) : Nat → Nat := fun i => if i = n then x else c i
theorem putC_at (c : Nat → Nat) (n x : Nat) : putC c n x n = x := if_pos rfl
theorem putC_ne (c : Nat → Nat) (n x : Nat) {i : Nat} (h : i ≠ n) : putC c n x i = c i := if_neg h
theorem putC_letters {c : Nat → Nat} {n x : Nat} (hc : ∀ i, i < 90 → c i ∈ letters) (hx : x ∈ letters) : ∀ i, i < 90 → putC c n x i ∈ letters := by
  intro i hi
  unfold putC
  split
  · exact hx
  · exact hc i hi
theorem betw_inner {c d : Nat → Nat} {a b : Nat} (ha : a < 90) (hb : b < 90) (h : ∀ n, n ≠ a → n ≠ b → c n = d n) : betwN c a b = betwN d a b := by
  unfold betwN
  rw [List.countP_congr (p := fun i => c i != 46) (q := fun i => d i != 46) (fun i hi => by
    obtain ⟨h1, h2, _⟩ := betwL_in ⟨a, ha⟩ ⟨b, hb⟩ i hi
    rw [h i h1 h2])]
theorem fast_back {c : Nat → Nat} {a b : Nat} (ha : a < 90) (hb : b < 90) (h : fastN c a b = true) (hk : kindN (c a) ≠ 78 ∧ kindN (c a) ≠ 80) (hk7 : ∀ x ∈ letters, 0 ≤ sideN x → kindN x ∈ [75, 65, 66, 78, 82, 67, 80]) (hl : c a ∈ letters) (h67 : kindN (c a) = 67 → c b = 46)
    (hm : mayN (c a) a = true) : fastN (putC (putC c a 46) b (c a)) b a = true := by
  unfold fastN at h
  simp only [Bool.and_eq_true, decide_eq_true_eq, bne_iff_ne, ne_eq] at h
  obtain ⟨⟨h1, h2⟩, h3⟩ := h
  have hab : a ≠ b := fun e => h2 (by rw [e])
  have hk' := hk7 _ hl h1
  unfold fastN
  have eb : putC (putC c a 46) b (c a) b = c a := putC_at _ _ _
  have ea : putC (putC c a 46) b (c a) a = 46 := by rw [putC_ne _ _ _ hab, putC_at]
  have hbet : betwN (putC (putC c a 46) b (c a)) b a = betwN c a b := by
    rw [betw_sym _ hb ha]
    exact betw_inner ha hb (fun n n1 n2 => by rw [putC_ne _ _ _ n2, putC_ne _ _ _ n1])
  rw [eb, ea, decide_eq_true h1, show (sideN 46 != sideN (c a)) = true from by rw [show sideN 46 = -1 from rfl, bne_iff_ne]; omega]
  simp only [Bool.true_and]
  unfold canN at h3 ⊢
  rw [eb, hbet, ea]
  rw [away_sym (b % 9), away_sym (b / 9)]
  obtain ⟨k1, k2⟩ := hk
  by_cases q75 : kindN (c a) = 75
  · rw [if_pos q75] at h3 ⊢
    simp only [Bool.and_eq_true] at h3 ⊢
    exact ⟨h3.1, hm⟩
  rw [if_neg q75] at h3 ⊢
  by_cases q65 : kindN (c a) = 65
  · rw [if_pos q65] at h3 ⊢
    simp only [Bool.and_eq_true] at h3 ⊢
    exact ⟨h3.1, hm⟩
  rw [if_neg q65] at h3 ⊢
  by_cases q66 : kindN (c a) = 66
  · rw [if_pos q66] at h3 ⊢
    simp only [Bool.and_eq_true, beq_iff_eq] at h3 ⊢
    obtain ⟨⟨⟨g1, g2⟩, g3⟩, g4⟩ := h3
    obtain ⟨m1, m2, _⟩ := mid_in ⟨a, ha⟩ ⟨b, hb⟩ g1 g2
    simp only at m1 m2
    refine ⟨⟨⟨g1, g2⟩, hm⟩, ?_⟩
    rw [show (b + a) / 2 = (a + b) / 2 from by rw [Nat.add_comm], putC_ne _ _ _ m2, putC_ne _ _ _ m1]
    exact g4
  rw [if_neg q66, if_neg k1] at h3 ⊢
  by_cases q82 : kindN (c a) = 82
  · rw [if_pos q82] at h3 ⊢
    exact h3
  rw [if_neg q82] at h3 ⊢
  have q67 : kindN (c a) = 67 := by
    simp only [List.mem_cons, List.not_mem_nil, or_false] at hk'
    omega
  rw [if_pos q67] at h3 ⊢
  have := h67 q67
  simp [this] at h3
  simp [h3]
theorem kinds7 : ∀ x ∈ letters, 0 ≤ sideN x → kindN x ∈ [75, 65, 66, 78, 82, 67, 80] := by decide
theorem letter_side : ∀ x ∈ letters, (x = 46 ∧ sideN x = -1) ∨ (x ≠ 46 ∧ sideN x = 0) ∨ (x ≠ 46 ∧ sideN x = 1) := by decide
/-- A red chariot, a red cannon on a. -/
theorem fast_chariot (c : Nat → Nat) {a b : Nat} (ha : a < 90) (hb : b < 90) (_ : c b ∈ letters) (hab : a ≠ b) : fastN (putC c a 82) a b = (sideN (c b) != 0 && betwN c a b == 0) := by
  unfold fastN canN
  rw [putC_at, putC_ne _ _ _ (Ne.symm hab), betw_inner (d := c) ha hb (fun n n1 n2 => putC_ne _ _ _ n1)]
  rfl
theorem fast_cannon (c : Nat → Nat) {a b : Nat} (ha : a < 90) (hb : b < 90) (_ : c b ∈ letters) (hab : a ≠ b) : fastN (putC c a 67) a b = (sideN (c b) != 0 && ((betwN c a b == 0 && c b == 46) || (betwN c a b == 1 && c b != 46))) := by
  unfold fastN canN
  rw [putC_at, putC_ne _ _ _ (Ne.symm hab), betw_inner (d := c) ha hb (fun n n1 n2 => putC_ne _ _ _ n1)]
  rfl
theorem pawn_few : ∀ s : Fin 2, ∀ a : Fin 90, ((List.range 90).filter (pawnN ((s.1 : Nat) : Int) a.1)).length ≤ 3 := by decide +kernel
theorem pawn_ahead : ∀ s : Fin 2, ∀ a b : Fin 90, pawnN ((s.1 : Nat) : Int) a.1 b.1 = true → (if s.1 = 1 then b.1 / 9 + 1 = a.1 / 9 ∧ b.1 % 9 = a.1 % 9 else b.1 / 9 = a.1 / 9 + 1 ∧ b.1 % 9 = a.1 % 9) ∨ (b.1 / 9 = a.1 / 9 ∧ overN a.1 ((s.1 : Nat) : Int) = true) := by decide +kernel
end Go.Proofs.YtafmapadkpjliaaGreatDoor.Sp

/- Plain law: texts of bytes; a board, a position from the other side. -/
namespace Go.Proofs.YtafmapadkpjliaaGreatDoor.K
open Go.RowKit Go.Lib Go.Proofs.YtafmapadkpjliaaGreatDoorW.PrintWords Go.Proofs.YtafmapadkpjliaaGreatDoor.Sp
set_option linter.unusedVariables false
set_option linter.unusedSimpArgs false
/-- A text of bytes. -/
def strB (l : List Nat) : ByteArray := ⟨(l.map UInt8.ofNat).toArray⟩
theorem strB_size (l : List Nat) : (strB l).size = l.length := by simp [strB, ByteArray.size]
theorem cel_strB (l : List Nat) (n : Nat) (hn : n < l.length) (hl : ∀ x ∈ l, x < 256) : cel (strB l) n = l[n] := by
  have h : n < (strB l).size := by rw [strB_size]; exact hn
  rw [← cel_get _ n h]
  have e : (strB l)[n]'h = UInt8.ofNat (l[n]) := by
    show ((l.map UInt8.ofNat).toArray)[n]'(by simpa using hn) = _
    simp
  rw [e]
  have := hl _ (List.getElem_mem hn)
  simp [Nat.mod_eq_of_lt this]
theorem strB_snoc (l : List Nat) (x : Nat) : strB l ++ strOfNums [(x : Int)] = strB (l ++ [x]) := by
  apply ByteArray.ext
  rw [ByteArray.data_append]
  simp [strB, strOfNums]
theorem letter_lt : ∀ x ∈ letters, x < 256 := by decide
theorem isBoard_strB (l : List Nat) (hl : l.length = 90) (h : ∀ x ∈ l, x ∈ letters) : isBoard (strB l) = true := by
  have hcb : ∀ x ∈ letters, cellB x = true := by decide
  refine (board_iff _ (by rw [strB_size]; exact hl)).2 fun n hn => ?_
  rw [cel_strB l n (by omega) (fun x hx => letter_lt x (h x hx))]
  exact hcb _ (h _ (List.getElem_mem _))
/-- The text of a cell function. -/
def boardB (c : Nat → Nat) : ByteArray := strB ((List.range 90).map c)
theorem boardB_is (c : Nat → Nat) (h : ∀ n, n < 90 → c n ∈ letters) : isBoard (boardB c) = true := isBoard_strB _ (by simp) (by intro x hx; obtain ⟨n, hn, rfl⟩ := List.mem_map.1 hx; exact h n (List.mem_range.1 hn))
theorem boardB_cel (c : Nat → Nat) (h : ∀ n, n < 90 → c n ∈ letters) {n : Nat} (hn : n < 90) : cel (boardB c) n = c n := by
  unfold boardB
  rw [cel_strB _ n (by simpa using hn) (by intro x hx; obtain ⟨m, hm, rfl⟩ := List.mem_map.1 hx; exact letter_lt _ (h m (List.mem_range.1 hm)))]
  simp
def turnS (s : ByteArray) : ByteArray := if isBoard s = true then boardB (turnC (cel s)) else ⟨#[]⟩
theorem turnS_is {s : ByteArray} (hs : isBoard s = true) : isBoard (turnS s) = true ∧ ∀ n, n < 90 → cel (turnS s) n = turnC (cel s) n := by
  have hc : ∀ n, n < 90 → turnC (cel s) n ∈ letters := fun n hn => turnC_letters (fun m hm => board_cell hs hm) hn
  unfold turnS
  rw [if_pos hs]
  exact ⟨boardB_is _ hc, fun n hn => boardB_cel _ hc hn⟩
def turnP (p : Pos) : Pos := ⟨turnS p.cells, 1 - p.side, p.clock, p.full⟩
/-! ### numbers turned round -/
def flip (n : Nat) : Nat := 89 - n
def flipM (m : Mv) : Mv := (89 - m.1, 89 - m.2)
theorem range_flip : (List.range 90).reverse.map flip = List.range 90 := by decide
theorem filter_flip {P Q : Nat → Bool} (h : ∀ b, b < 90 → Q (89 - b) = P b) : (List.range 90).filter Q = (((List.range 90).filter P).map flip).reverse := by
  conv => lhs; rw [← range_flip]
  rw [List.filter_map, ← List.map_reverse, ← List.filter_reverse]
  congr 1
  refine List.filter_congr fun b hb => ?_
  have := List.mem_range.1 (List.mem_reverse.1 hb)
  exact h b this
theorem flatMap_flip {α : Type} {F G : Nat → List α} {g : α → α} (h : ∀ a, a < 90 → G (89 - a) = ((F a).map g).reverse) : (List.range 90).flatMap G = (((List.range 90).flatMap F).map g).reverse := by
  conv => lhs; rw [← range_flip]
  rw [List.flatMap_map, List.map_flatMap, List.reverse_flatMap]
  have e : ∀ l : List Nat, (∀ a ∈ l, a < 90) → l.flatMap (fun a => G (flip a)) = l.flatMap (List.reverse ∘ fun a => (F a).map g) := by
    intro l
    induction l with
    | nil => intro _; rfl
    | cons a l ih =>
      intro hl
      rw [List.flatMap_cons, List.flatMap_cons, ih (fun x hx => hl x (List.mem_cons_of_mem _ hx)), Function.comp, ← h a (hl a List.mem_cons_self)]
      rfl
  exact e _ (fun a ha => List.mem_range.1 (List.mem_reverse.1 ha))
theorem count_flip {P Q : Nat → Bool} (h : ∀ b, b < 90 → Q (89 - b) = P b) : (List.range 90).countP Q = (List.range 90).countP P := by
  rw [List.countP_eq_length_filter, List.countP_eq_length_filter, filter_flip h, List.length_reverse, List.length_map]
/-! ### the position from the other side -/
end Go.Proofs.YtafmapadkpjliaaGreatDoor.K

/- Plain law: boards as functions of squares, for reckoning by the kernel. -/
namespace Go.Proofs.YtafmapadkpjliaaGreatDoor.K
open Go.RowKit Go.Lib Go.Proofs.YtafmapadkpjliaaGreatDoorW.PrintWords Go.Proofs.YtafmapadkpjliaaGreatDoor.Sp
set_option linter.unusedVariables false
set_option linter.unusedSimpArgs false
/-- The fifteen letters, one byte each. -/
def lettersQ : Nat := 61728042078985604849281199107557378862
/-- A board in one number: four bits a square. -/
def celQ (N n : Nat) : Nat := Nat.land (Nat.shiftRight lettersQ (Nat.mul 8 (Nat.land (Nat.shiftRight N (Nat.mul 4 n)) 15))) 255
theorem celQ_letters (N n : Nat) : celQ N n ∈ letters := by
  have h : ∀ k : Fin 16, Nat.land (Nat.shiftRight lettersQ (Nat.mul 8 k.1)) 255 ∈ letters := by decide +kernel
  exact h ⟨Nat.land (Nat.shiftRight N (Nat.mul 4 n)) 15, Nat.lt_of_le_of_lt Nat.and_le_right (by decide)⟩
def boardQ (N : Nat) : ByteArray := boardB (celQ N)
theorem boardQ_is (N : Nat) : isBoard (boardQ N) = true := boardB_is _ (fun n _ => celQ_letters N n)
theorem boardQ_cel (N : Nat) {n : Nat} (hn : n < 90) : cel (boardQ N) n = celQ N n := boardB_cel _ (fun n _ => celQ_letters N n) hn
/-- A board's squares. -/
structure OnB (s : ByteArray) (c : Nat → Nat) : Prop where
  bd : isBoard s = true
  at_ : ∀ n, n < 90 → cel s n = c n
theorem OnB.q (N : Nat) : OnB (boardQ N) (celQ N) := ⟨boardQ_is N, fun n hn => boardQ_cel N hn⟩
theorem OnB.let_ {s : ByteArray} {c : Nat → Nat} (h : OnB s c) (n : Nat) (hn : n < 90) : cel s n ∈ letters := board_cell h.bd hn
def frstQ (c : Nat → Nat) (k : Nat) : Int := hdZ ((List.range 90).filter (fun i => Nat.beq (c i) k))
theorem gen_C {s : ByteArray} {c : Nat → Nat} (h : OnB s c) (a : Int) (ha : a = 0 ∨ a = 1) : genS s a = frstQ c (kingO a) := by
  unfold genS frstQ findS
  rw [if_pos ha, if_pos h.bd]
  congr 1
  refine List.filter_congr fun i hi => ?_
  rw [h.at_ i (List.mem_range.1 hi), Bool.eq_iff_iff, decide_eq_true_eq]
  exact ⟨fun h => by rw [h]; exact Nat.beq_refl _, fun h => Nat.eq_of_beq_eq_true h⟩
theorem first_lt (c : Nat → Nat) (k : Nat) (h : 0 ≤ frstQ c k) : frstQ c k < 90 := by
  unfold frstQ at h ⊢
  cases hl : (List.range 90).filter (fun i => Nat.beq (c i) k) with
  | nil => rw [hl] at h; simp [hdZ] at h
  | cons x r =>
    have hx : x ∈ (List.range 90).filter (fun i => Nat.beq (c i) k) := by rw [hl]; exact List.mem_cons_self
    have := List.mem_range.1 (List.mem_filter.1 hx).1
    show (x : Int) < 90
    omega
def facC (c : Nat → Nat) : Bool := decide (0 ≤ frstQ c 75) && (decide (0 ≤ frstQ c 107) && (((frstQ c 75) % 9 == (frstQ c 107) % 9) && (betwN c (frstQ c 75).toNat (frstQ c 107).toNat == 0)))
theorem fac_C {s : ByteArray} {c : Nat → Nat} (h : OnB s c) : facS s = facC c := by
  unfold facS facC
  rw [gen_C h 0 (.inl rfl), gen_C h 1 (.inr rfl), show kingO 0 = 75 from rfl, show kingO 1 = 107 from rfl]
  have l0 := first_lt c 75
  have l1 := first_lt c 107
  generalize frstQ c 75 = x at *
  generalize frstQ c 107 = y at *
  cases h0 : decide (0 ≤ x)
  · rfl
  · cases h1 : decide (0 ≤ y)
    · rfl
    · have h0 := of_decide_eq_true h0
      have h1 := of_decide_eq_true h1
      have l0 := l0 h0
      have l1 := l1 h1
      have e1 : fileS x = x % 9 := if_pos ⟨h0, l0⟩
      have e2 : fileS y = y % 9 := if_pos ⟨h1, l1⟩
      have e3 : betwS s x y = betwN c x.toNat y.toNat := by
        unfold betwS
        rw [if_pos ⟨h.bd, ⟨h0, l0⟩, ⟨h1, l1⟩⟩]
        exact betw_congr h.at_ (by omega) (by omega)
      rw [e1, e2, e3]
def inC (c : Nat → Nat) (a : Int) : Bool := decide (0 ≤ frstQ c (kingO a)) && (List.range 90).any (fun f => (sideN (putC c (frstQ c (kingO a)).toNat (pawnO (1 - a)) f) == 1 - a) && fastN (putC c (frstQ c (kingO a)).toNat (pawnO (1 - a))) f (frstQ c (kingO a)).toNat)
theorem in_C {s : ByteArray} {c : Nat → Nat} (h : OnB s c) (a : Int) (ha : a = 0 ∨ a = 1) : inS s a = inC c a := by
  unfold inS inC
  rw [gen_C h a ha]
  have l0 := first_lt c (kingO a)
  generalize frstQ c (kingO a) = x at *
  cases h0 : decide (0 ≤ x)
  · rfl
  · have h0 := of_decide_eq_true h0
    have l0 := l0 h0
    obtain ⟨n, rfl⟩ := Int.eq_ofNat_of_zero_le h0
    have hn : n < 90 := by omega
    rw [Int.toNat_natCast, att_same s h.bd n hn (1 - a) (by omega)]
    obtain ⟨hc1, hc2⟩ := pawnO_cell (1 - a)
    have hb := putT_board s h.bd n (pawnO (1 - a)) hc1 hc2
    have hz := board_size h.bd
    have hcel : ∀ i, i < 90 → cel (putT s n (pawnO (1 - a))) i = putC c n (pawnO (1 - a)) i := by
      intro i hi
      rw [putT_cel s n _ i hc2 (by omega), h.at_ i hi]
      rfl
    rw [Bool.true_and, Bool.true_and]
    unfold rattL
    rw [Bool.eq_iff_iff, decide_eq_true_eq, List.length_pos_iff_exists_mem, List.any_eq_true]
    have key : ∀ f, f < 90 → ((sideN (cel (putT s n (pawnO (1 - a))) f) == 1 - a) && fastN (cel (putT s n (pawnO (1 - a)))) f n) = ((sideN (putC c n (pawnO (1 - a)) f) == 1 - a) && fastN (putC c n (pawnO (1 - a))) f n) := by
      intro f hf
      rw [hcel f hf, fast_congr hcel hf hn (fun i hi => board_cell hb hi)]
    constructor
    · rintro ⟨f, hf⟩
      obtain ⟨h1, h2⟩ := List.mem_filter.1 hf
      exact ⟨f, h1, by rw [← key f (List.mem_range.1 h1)]; exact h2⟩
    · rintro ⟨f, h1, h2⟩
      exact ⟨f, List.mem_filter.2 ⟨h1, by rw [key f (List.mem_range.1 h1)]; exact h2⟩⟩
def safeC (c : Nat → Nat) (a : Int) : Bool := !facC c && !inC c a
theorem safe_C {s : ByteArray} {c : Nat → Nat} (h : OnB s c) (a : Int) (ha : a = 0 ∨ a = 1) : safeR s a = safeC c a := by
  unfold safeR safeC; rw [fac_C h, in_C h a ha]
theorem moved_board {s : ByteArray} (hs : isBoard s = true) {a b : Nat} (ha : a < 90) (hb : b < 90) : isBoard (movedB s a b) = true := by
  have hsz := board_size hs
  have hcb : ∀ x ∈ letters, cellB x = true := by decide
  refine (board_iff _ (by rw [moved_size, hsz])).2 (fun n hn => ?_)
  rw [moved_cel (by omega) (by omega) (by omega)]
  refine hcb _ ?_
  unfold moveC setC
  split
  · decide
  · split
    · exact board_cell hs ha
    · exact board_cell hs hn
theorem OnB.moved {s : ByteArray} {c : Nat → Nat} (h : OnB s c) {a b : Nat} (ha : a < 90) (hb : b < 90) : OnB (movedB s a b) (moveC c a b) := by
  refine ⟨moved_board h.bd ha hb, fun n hn => ?_⟩
  have hsz := board_size h.bd
  rw [moved_cel (by omega) (by omega) (by omega)]
  unfold moveC setC
  split
  · rfl
  · split
    · exact h.at_ a ha
    · exact h.at_ n hn
def movesC (c : Nat → Nat) (side : Int) : List Mv := (List.range 90).flatMap (fun a => if sideN (c a) = side then ((List.range 90).filter (fastN c a)).map (fun b => (a, b)) else [])
theorem gath_C {s : ByteArray} {c : Nat → Nat} (h : OnB s c) (side : Int) : gathM s side (fun _ => true) 90 = movesC c side := by
  unfold gathM movesC
  rw [List.flatMap_def, List.flatMap_def]
  congr 1
  refine List.map_congr_left fun a ha => ?_
  have ha := List.mem_range.1 ha
  unfold fromM allN
  rw [h.at_ a ha]
  split
  · congr 1
    rw [List.filter_filter]
    refine List.filter_congr fun b hb => ?_
    rw [Bool.true_and]
    exact fast_congr h.at_ ha (List.mem_range.1 hb) h.let_
  · rfl
def legalQ (c : Nat → Nat) (side : Int) : List Mv := (movesC c side).filter (fun m => kindN (c m.2) != 75 && safeC (moveC c m.1 m.2) side)
theorem legal_C {s : ByteArray} {c : Nat → Nat} (h : OnB s c) (side : Int) (hs : side = 0 ∨ side = 1) : legalR s side = legalQ c side := by
  unfold legalR legalQ
  rw [← gath_C h side]
  refine List.filter_congr fun m hm => ?_
  obtain ⟨h1, h2⟩ := gathM_mem (Nat.le_refl 90) hm
  unfold mayR
  rw [h.at_ _ h2, safe_C (h.moved h1 h2) side hs]
end Go.Proofs.YtafmapadkpjliaaGreatDoor.K

/- Plain law: texts of bytes; a position from the other side. -/
namespace Go.Proofs.YtafmapadkpjliaaGreatDoor.K
open Go.RowKit Go.Lib Go.Proofs.YtafmapadkpjliaaGreatDoorW.PrintWords Go.Proofs.YtafmapadkpjliaaGreatDoor.Sp
set_option linter.unusedVariables false
theorem swap14 : ∀ x ∈ pieces14, swapN x ∈ pieces14 ∧ x ∈ letters ∧ swapN (swapN x) = x ∧ kindN (swapN x) = kindN x ∧ mostN (swapN x) = mostN x := by decide
theorem check_turn {p : Pos} (hck : checkP p = 0) : checkP (turnP p) = 0 := by
  obtain ⟨hao, hbad, hri⟩ := checkP_parts hck
  obtain ⟨hbd, hsd, h1, h2, h3, h4⟩ := argOk_yes hao
  obtain ⟨ht, hc⟩ := turnS_is hbd
  have hl : ∀ n, n < 90 → cel p.cells n ∈ letters := fun n hn => board_cell hbd hn
  refine checkP_mk ?_ ?_ ?_
  · unfold argOk turnP
    simp only
    rw [ht]
    simp only [Bool.true_and, decide_eq_true_eq]
    omega
  · intro x hx
    obtain ⟨m1, m2, m3, m4, m5⟩ := swap14 x hx
    have e : cntX (turnS p.cells) 90 x = cntX p.cells 90 (swapN x) := by
      unfold cntX
      refine count_flip (fun b hb => ?_)
      rw [hc _ (by omega), turnC_at _ hb, Bool.eq_iff_iff, beq_iff_eq, beq_iff_eq]
      constructor
      · intro h; rw [← h]; exact ((swap_facts _ (hl b hb)).2.2.2.2).symm
      · intro h; rw [h]; exact m3
    have := hbad _ m1
    unfold badX at this ⊢
    simp only [turnP]
    have e2 : cntX (turnP p).cells 90 x = cntX p.cells 90 (swapN x) := e
    rw [m4, m5] at this
    rw [← e] at this
    exact this
  · intro n hn
    simp only [turnP]
    rw [hc n hn]
    have hfl : 89 - (89 - n) = n := by omega
    rcases hri (89 - n) (by omega) with h | h
    · left
      unfold turnC
      rw [h]; rfl
    · right
      have := may_turn _ (hl (89 - n) (by omega)) ⟨89 - n, by omega⟩
      simp only [hfl] at this
      unfold turnC
      rw [this]
      exact h
theorem gath_turn {p : Pos} (hck : checkP p = 0) : gathP (turnP p) (fun _ => true) = ((gathP p (fun _ => true)).map flipM).reverse := by
  obtain ⟨hbd, hsd, _⟩ := argOk_yes (checkP_parts hck).1
  obtain ⟨ht, hc⟩ := turnS_is hbd
  have hl : ∀ n, n < 90 → cel p.cells n ∈ letters := fun n hn => board_cell hbd hn
  unfold gathP
  rw [if_pos hck, if_pos (check_turn hck)]
  unfold gathM
  refine flatMap_flip (fun a ha => ?_)
  unfold fromM
  simp only [turnP]
  have hsa : (sideN (cel (turnS p.cells) (89 - a)) = 1 - p.side) ↔ (sideN (cel p.cells a) = p.side) := by
    rw [hc _ (by omega), turnC_at _ ha, (swap_facts _ (hl a ha)).2.2.2.1]
    have := sideV (cel p.cells a)
    split <;> omega
  by_cases hs : sideN (cel p.cells a) = p.side
  · rw [if_pos hs]
    refine Eq.trans (if_pos (hsa.2 hs)) ?_
    have e : ∀ l : List Nat, l.filter (fun b => (fun _ => true) (cel (turnS p.cells) b)) = l := fun l => by simp
    have e' : ∀ l : List Nat, l.filter (fun b => (fun _ => true) (cel p.cells b)) = l := fun l => by simp
    rw [e, e']
    unfold allN
    rw [filter_flip (P := fastN (cel p.cells) a) (fun b hb => ?_)]
    · rw [List.map_reverse, List.map_map, List.map_map]
      rfl
    · rw [fast_congr (d := turnC (cel p.cells)) (fun n hn => hc n hn) (by omega) (by omega) (fun n hn => by rw [hc n hn]; exact turnC_letters hl hn)]
      exact fast_turn hl ha hb
  · rw [if_neg hs]
    exact Eq.trans (if_neg (fun h => hs (hsa.1 h))) rfl
theorem gath_side {p : Pos} {m : Mv} (hck : checkP p = 0) (hm : m ∈ gathP p (fun _ => true)) : sideN (cel p.cells m.1) = p.side ∧ m ∉ gathP ⟨p.cells, 1 - p.side, p.clock, p.full⟩ (fun _ => true) := by
  obtain ⟨_, hsd, _⟩ := argOk_yes (checkP_parts hck).1
  have h := (gath_mem hm).2.2.2.1
  refine ⟨h, fun hm2 => ?_⟩
  have h2 := (gath_mem hm2).2.2.2.1
  simp only at h2
  omega
end Go.Proofs.YtafmapadkpjliaaGreatDoor.K

/- Walks: the references' Of, Turn of a board and of a position. -/
namespace Go.Proofs.YtafmapadkpjliaaGreatDoor.K
open Go.RowKit Go.Lib Go.Proofs.YtafmapadkpjliaaGreatDoorW.PrintWords Go.Proofs.YtafmapadkpjliaaGreatDoor.Sp
set_option linter.unusedVariables false
set_option linter.unusedSimpArgs false
attribute [local go_sem] cel_get   -- for this text's walks alone
theorem rof_c (k : Nat) (hk : k < 256) (side : Int) (x : Nat) (h : (if side = 1 then (k : Int) - 65 + 97 else k) = (x : Int)) (hr : side = 1 → 65 ≤ k ∧ k ≤ 90) (w : World) :
    Calls Tryz.prog 55 #[.int .u8 (k : Int), .int .i64 side] w fun e w' => e = .returned (.int .u8 (x : Int)) ∧ w' = w := by
  by_cases h1 : side = 1
  · rw [if_pos h1] at h
    obtain ⟨h2, h3⟩ := hr h1
    have q : (side == 1) = true := by rw [h1]; rfl
    have e1 : ((k : Int) - 65) % 256 = (k : Int) - 65 := by omega
    have e2 : ((k : Int) - 65 + 97) % 256 = (x : Int) := by omega
    clear h1 hr h hk
    go_enter Tryz.func55, Tryz.ntmps55
    go_wp2_with fail
    go_ret
    exact ⟨ret_int (by omega), rfl⟩
  · rw [if_neg h1] at h
    have q : (side == 1) = false := by rw [beq_eq_false_iff_ne]; exact h1
    clear h1 hr
    go_enter Tryz.func55, Tryz.ntmps55
    go_wp2_with fail
    go_ret
    exact ⟨ret_int h, rfl⟩
theorem turn_byte : ∀ x ∈ letters, (0 ≤ sideN x → (if 1 - sideN x = 1 then ((kindN x : Nat) : Int) - 65 + 97 else kindN x) = ((swapN x : Nat) : Int) ∧ (1 - sideN x = 1 → 65 ≤ kindN x ∧ kindN x ≤ 90)) ∧ (sideN x < 0 → swapN x = x) := by decide
theorem one_byte (x : Nat) (W : World) : (convert 93 9 (.slice (some ⟨W.heap.size, 0, none⟩) 1 1)).run Tryz.prog (W.alloc (.cells #[.int .u8 (x : Int)] 5)) = .ok (.string (strOfNums [(x : Int)])) (W.alloc (.cells #[.int .u8 (x : Int)] 5)) := by
  have h : BytesAt (W.alloc (.cells #[.int .u8 (x : Int)] 5)) W.heap.size [(x : Int)] := by
    intro i hi
    obtain rfl : i = 0 := by simp at hi; exact hi
    simp [World.cell?_alloc_at]
  exact bytes_string h 93 Tryz.underlying93
set_option maxRecDepth 100000 in
set_option maxHeartbeats 2000000 in
theorem rturn_c (s : ByteArray) (hs : isBoard s = true) (w : World) : Calls Tryz.prog 30 #[.string s] w fun e w' => e = .returned (.string (turnS s)) ∧ Below w.heap.size w w' := by
  have hz := board_size hs
  have HIS := Aside0.mk (fun W => ris_c s (by rw [hz]; unfold maxLen; omega) W)
  rw [hs] at HIS
  have HSZ := Aside0.mk hz
  have HLT := Aside0.mk (fun n (hn : n < 90) => board_cell hs hn)
  have HT := Aside0.mk (show turnS s = strB ((List.range 90).map (turnC (cel s))) by unfold turnS; rw [if_pos hs]; rfl)
  clear hs hz
  generalize turnS s = ts at *
  go_enter Tryz.func30, Tryz.ntmps30
  go_wp2_with (go_at_call 54; refine (HIS.out _).mono ?_; rintro e w1 ⟨rfl, rfl⟩)
  go_loopg [3, 4, 5] 90 (fun gg s3 s4 _ wr => ∃ (m : Nat) (acc : ByteArray), m = gg ∧ m ≤ 90 ∧ s3 = .string acc ∧ s4 = .int .i64 ((m : Int) - 1) ∧ Aside0 (acc = strB ((List.range (90 - m)).map (turnC (cel s)))) ∧ Aside0 (Below w1.heap.size w1 wr))
  case atStart => exact ⟨90, strB [], rfl, by omega, rfl, rfl, ⟨rfl⟩, ⟨Below.refl _ _⟩⟩
  case round =>
    obtain ⟨m, acc, rfl, hm, rfl, rfl, HACC, HB⟩ := hrel
    cases m with
    | zero =>
      have hn : ¬ (0 ≤ ((0 : Nat) : Int) - 1) := by omega
      go_wp2_with fail
      go_ret
      refine ⟨?_, HB.out⟩
      show Ending.returned (.string acc) = _
      rw [HT.out, HACC.out]
    | succ g =>
      have hg : ((g + 1 : Nat) : Int) - 1 = (g : Int) := by omega
      rw [hg]
      have hn : 0 ≤ (g : Int) := by omega
      have hsz : (g : Int) < (s.size : Int) := by rw [HSZ.out]; omega
      have hle := HLT.out g (by omega)
      have hstep : (List.range (90 - g)).map (turnC (cel s)) = (List.range (90 - (g + 1))).map (turnC (cel s)) ++ [swapN (cel s g)] := by
        rw [show 90 - g = (90 - (g + 1)) + 1 from by omega, List.range_succ, List.map_append]
        congr 1
        simp only [List.map_cons, List.map_nil]
        congr 1
        have := turnC_at (cel s) (n := g) (by omega)
        rw [show 89 - g = 90 - (g + 1) from by omega] at this
        exact this
      have hst2 : strB ((List.range (90 - g)).map (turnC (cel s))) = strB ((List.range (90 - (g + 1))).map (turnC (cel s))) ++ strOfNums [(swapN (cel s g) : Int)] := by rw [strB_snoc, hstep]
      rw [← HACC.out] at hst2
      have HST := Aside0.mk hst2
      have hbd : acc.size ≤ 90 := by rw [HACC.out, strB_size]; simp; omega
      obtain ⟨b1, b2⟩ := turn_byte _ hle
      have hsl := sideN_le (cel s g)
      have hsw : swapN (cel s g) < 256 := letter_lt _ (swap_facts _ hle).1
      have HS := Aside0.mk (fun W => rside_c (cel s g) (cel_lt s g) W)
      have HK := Aside0.mk (fun W => rkind_c (cel s g) (cel_lt s g) W)
      have hkl : kindN (cel s g) < 256 := by have := cel_lt s g; unfold kindN; split <;> (try split) <;> omega
      have HO := Aside0.mk (fun (h : 0 ≤ sideN (cel s g)) W => rof_c (kindN (cel s g)) hkl (1 - sideN (cel s g)) (swapN (cel s g)) (b1 h).1 (b1 h).2 W)
      have HG := Aside0.mk hm
      generalize hx : swapN (cel s g) = y at *
      have kc := one_byte y
      have hsn : (strOfNums [(y : Int)]).size = 1 := by simp [strOfNums, ByteArray.size]
      clear hstep hst2 hle hg hm hkl b1
      by_cases h0 : 0 ≤ sideN (cel s g)
      · have HO1 := Aside0.mk (HO.out h0)
        have s0 : 0 ≤ sideN (cel s g) := h0
        clear HO h0 b2
        generalize kindN (cel s g) = kd at *
        generalize sideN (cel s g) = sd at *
        generalize hxx : cel s g = xx at *
        go_wp2_with (first | (go_at_call 46; refine (HS.out _).mono ?_; rintro e w2 ⟨rfl, rfl⟩) | (go_at_call 48; refine (HK.out _).mono ?_; rintro e w2 ⟨rfl, rfl⟩) | (go_at_call 55; refine (HO1.out _).mono ?_; rintro e w2 ⟨rfl, rfl⟩) | (simp only [kc]))
        go_roundg g
        case measure => omega
        case rel => exact ⟨g, _, rfl, by have := HG.out; omega, rfl, by rw [show wrap64 ((g : Int) - 1) = (g : Int) - 1 by have := HG.out; unfold wrap64; omega], ⟨HST.out.symm⟩, ⟨HB.out.trans (below_alloc (Below.refl _ _) _ |>.mono HB.out.size)⟩⟩
      · have s0 : ¬ (0 ≤ sideN (cel s g)) := h0
        obtain rfl : y = cel s g := b2 (by omega)
        clear HO h0 b2 HK hx
        generalize sideN (cel s g) = sd at *
        generalize hxx : cel s g = xx at *
        go_wp2_with (first | (go_at_call 46; refine (HS.out _).mono ?_; rintro e w2 ⟨rfl, rfl⟩) | (simp only [kc]))
        go_roundg g
        case measure => omega
        case rel => exact ⟨g, _, rfl, by have := HG.out; omega, rfl, by rw [show wrap64 ((g : Int) - 1) = (g : Int) - 1 by have := HG.out; unfold wrap64; omega], ⟨HST.out.symm⟩, ⟨HB.out.trans (below_alloc (Below.refl _ _) _ |>.mono HB.out.size)⟩⟩
/-- Turn's box beside its result's. -/
structure TwAt (w0 W : World) (p : Pos) : Prop where
  box : BoxP W w0.heap.size p
  r0 : W.cell? ⟨w0.heap.size + 1, 0, none⟩ = some (.string { data := #[] })
  r1 : W.cell? ⟨w0.heap.size + 1, 1, none⟩ = some (.int .i64 0)
  r2 : W.cell? ⟨w0.heap.size + 1, 2, none⟩ = some (.int .i64 0)
  r3 : W.cell? ⟨w0.heap.size + 1, 3, none⟩ = some (.int .i64 0)
  fr : ∀ k, W.frozen? ⟨w0.heap.size + 1, k, none⟩ = false
  bel : Below w0.heap.size w0 W
theorem TwAt.below {w0 W W' : World} {p : Pos} (h : TwAt w0 W p) (hb : Below W.heap.size W W') : TwAt w0 W' p :=
  ⟨h.box.below hb, below_cell hb _ _ _ h.r0, below_cell hb _ _ _ h.r1, below_cell hb _ _ _ h.r2, below_cell hb _ _ _ h.r3, fun k => (hb.frozen (p := ⟨w0.heap.size + 1, k, none⟩) (show w0.heap.size + 1 < W.heap.size from World.block_lt_of_cell? W ⟨w0.heap.size + 1, 0, none⟩ h.r0)).trans (h.fr k), below_go h.bel hb⟩
set_option maxRecDepth 100000 in
set_option maxHeartbeats 4000000 in
theorem pturn_c (p : Pos) (hb : isBoard p.cells = true) (hs : p.side = 0 ∨ p.side = 1) (w : World) : Calls Tryz.prog 19 #[posV p] w fun e w' => e = .returned (posV (turnP p)) ∧ Below w.heap.size w w' := by
  have HT := Aside0.mk (fun W => rturn_c p.cells hb W)
  have hu := Tryz.underlying23
  have s0 : 0 ≤ p.side := by omega
  have s1 : p.side ≤ 1 := by omega
  have k1 : wrap64 (1 - p.side) = 1 - p.side := by unfold wrap64; omega
  have k2 : IntKind.i64.wrap (1 - p.side) = 1 - p.side := by rw [IntKind.wrap_i64]; omega
  unfold turnP
  generalize turnS p.cells = ts at *
  have HB := Aside0.mk (BoxP.new w p)
  have HW0 := Aside0.mk (below_new (Below.refl w.heap.size w) (.cells #[.string p.cells, .int .i64 p.side, .int .i64 p.clock, .int .i64 p.full] 23))
  clear hb hs
  go_enter Tryz.func19, Tryz.ntmps19
  go_wp2_with fail
  have HTW := Aside0.mk (show TwAt w ((w.alloc (.cells #[.string p.cells, .int .i64 p.side, .int .i64 p.clock, .int .i64 p.full] 23)).alloc (.cells #[.string { data := #[] }, .int .i64 0, .int .i64 0, .int .i64 0] 23)) p from ⟨HB.out.below (below_alloc (Below.refl _ _) _), by simp [World.cell?_alloc_at], by simp [World.cell?_alloc_at], by simp [World.cell?_alloc_at], by simp [World.cell?_alloc_at], fun k => by simp, below_new HW0.out _⟩)
  clear HB HW0
  generalize (w.alloc (.cells #[.string p.cells, .int .i64 p.side, .int .i64 p.clock, .int .i64 p.full] 23)).alloc (.cells #[.string { data := #[] }, .int .i64 0, .int .i64 0, .int .i64 0] 23) = W1 at *
  obtain ⟨e0, e1, e2, e3⟩ := HTW.out.box
  have HT1 := Aside0.mk (HTW.out.below (pw_below_drewN (Below.refl _ _) 1) : TwAt w W1.drew p)
  clear HTW
  have hne : w.heap.size + 1 ≠ w.heap.size := by omega
  go_region_held3 (fun W => W.cell? ⟨w.heap.size, 0, none⟩ = some (.string p.cells) ∧ W.cell? ⟨w.heap.size, 1, none⟩ = some (.int .i64 p.side) ∧ W.cell? ⟨w.heap.size, 2, none⟩ = some (.int .i64 p.clock) ∧ W.cell? ⟨w.heap.size, 3, none⟩ = some (.int .i64 p.full)) (go_keep)
    (first
      | (go_at_call 30; refine (HT.out _).mono ?_; rintro e w2 ⟨rfl, hb⟩; have HT2 := Aside0.mk (HT1.out.below hb); clear HT1 hb e0 e1 e2 e3; obtain ⟨e0, e1, e2, e3⟩ := HT2.out.box; have r0 := HT2.out.r0; have r1 := HT2.out.r1; have r2 := HT2.out.r2; have r3 := HT2.out.r3; have fr := HT2.out.fr))
  all_goals
    go_wp2_with fail
    refine bodyPost_ret (by simp [results, Tryz.results19, go_sem, r0, r1, r2, r3]; try rfl) rfl ?_
    refine ⟨rfl, ?_⟩
    (repeat' (first | (with_reducible exact Below.refl _ _) | (with_reducible refine pw_below_drewN ?_ _) | (with_reducible refine below_alloc ?_ _) | (with_reducible refine Below.drew ?_) | (with_reducible refine Below.setCell ?_ ?_ _) | (simp; done))) <;> first | exact HT2.out.bel | (simp; done) | (simp; omega)
end Go.Proofs.YtafmapadkpjliaaGreatDoor.K

/- CheckTurn: plain law. -/
namespace Go.Proofs.YtafmapadkpjliaaGreatDoor.K
open Go.RowKit Go.Lib Go.Proofs.YtafmapadkpjliaaGreatDoorW.PrintWords Go.Proofs.YtafmapadkpjliaaGreatDoor.Sp
set_option linter.unusedVariables false
theorem pawn_swap (a : Int) (ha : a = 0 ∨ a = 1) : swapN (pawnO a) = pawnO (1 - a) ∧ pawnO a ∈ letters := by
  rcases ha with rfl | rfl <;> decide
/-- Who attacks a square, seen from the other side. -/
theorem att_turn {s : ByteArray} (hs : isBoard s = true) (n : Nat) (hn : n < 90) (a : Int) (ha : a = 0 ∨ a = 1) : attS (turnS s) ((89 - n : Nat) : Int) (1 - a) = ((attS s (n : Int) a).map flip).reverse := by
  have hz := board_size hs
  obtain ⟨hts, htc⟩ := turnS_is hs
  have hz2 := board_size hts
  obtain ⟨hc1, hc2⟩ := pawnO_cell a
  obtain ⟨hd1, hd2⟩ := pawnO_cell (1 - a)
  obtain ⟨hsw, hlp⟩ := pawn_swap a ha
  rw [att_same s hs n hn a ha, att_same (turnS s) hts (89 - n) (by omega) (1 - a) (by omega)]
  have hb := putT_board s hs n (pawnO a) hc1 hc2
  have hcel : ∀ i, i < 90 → cel (putT s n (pawnO a)) i = if i = n then pawnO a else cel s i := fun i hi => putT_cel s n _ i hc2 (by omega)
  have hcel2 : ∀ i, i < 90 → cel (putT (turnS s) (89 - n) (pawnO (1 - a))) i = turnC (cel (putT s n (pawnO a))) i := by
    intro i hi
    rw [putT_cel _ _ _ i hd2 (by omega)]
    unfold turnC
    rw [hcel (89 - i) (by omega)]
    by_cases h : i = 89 - n
    · rw [if_pos h, if_pos (by omega), hsw]
    · rw [if_neg h, if_neg (by omega), htc i hi]; rfl
  have hl : ∀ i, i < 90 → cel (putT s n (pawnO a)) i ∈ letters := fun i hi => board_cell hb hi
  unfold rattL
  refine filter_flip fun f hf => ?_
  have e1 := hcel2 (89 - f) (by omega)
  rw [turnC_at _ hf] at e1
  rw [e1, fast_congr hcel2 (by omega) (by omega) (fun i hi => by rw [hcel2 i hi]; exact turnC_letters hl hi), fast_turn hl hf hn]
  congr 1
  obtain ⟨_, _, _, fs, _⟩ := swap_facts _ (hl f hf)
  rw [fs]
  have := sideV (cel (putT s n (pawnO a)) f)
  rw [Bool.eq_iff_iff, beq_iff_eq, beq_iff_eq]
  split <;> omega
theorem swap14' : ∀ x ∈ pieces14, swapN x ∈ pieces14 ∧ x ∈ letters ∧ swapN (swapN x) = x ∧ kindN (swapN x) = kindN x ∧ mostN (swapN x) = mostN x := by decide
theorem find_turn {s : ByteArray} (hs : isBoard s = true) (x : Nat) (hx : x ∈ pieces14) : findS (turnS s) x = ((findS s (swapN x)).map flip).reverse := by
  obtain ⟨hts, htc⟩ := turnS_is hs
  obtain ⟨m1, m2, m3, m4, m5⟩ := swap14' x hx
  unfold findS
  rw [if_pos hts, if_pos hs]
  refine filter_flip fun b hb => ?_
  rw [htc _ (by omega), turnC_at _ hb]
  have hl := board_cell hs hb
  rw [Bool.eq_iff_iff, decide_eq_true_eq, decide_eq_true_eq]
  constructor
  · intro h; rw [← h]; exact ((swap_facts _ hl).2.2.2.2).symm
  · intro h; rw [h]; exact m3
/-- A position's errors but for checks, seen from the other side. -/
theorem check_turn' {p : Pos} (hb : isBoard p.cells = true) (hs : p.side = 0 ∨ p.side = 1) : checkP (turnP p) = checkP p := by
  obtain ⟨ht, hc⟩ := turnS_is hb
  have hl : ∀ n, n < 90 → cel p.cells n ∈ letters := fun n hn => board_cell hb hn
  have e1 : argOk (turnP p) = argOk p := by
    unfold argOk
    rw [show (turnP p).cells = turnS p.cells from rfl, show (turnP p).side = 1 - p.side from rfl, show (turnP p).clock = p.clock from rfl, show (turnP p).full = p.full from rfl, ht, hb]
    congr 1
    rw [Bool.eq_iff_iff, decide_eq_true_eq, decide_eq_true_eq]
    constructor <;> rintro ⟨h1, h2⟩ <;> exact ⟨by omega, h2⟩
  have hcnt : ∀ x ∈ pieces14, cntX (turnS p.cells) 90 x = cntX p.cells 90 (swapN x) := by
    intro x hx
    obtain ⟨m1, m2, m3, m4, m5⟩ := swap14' x hx
    unfold cntX
    refine count_flip (fun b hb => ?_)
    rw [hc _ (by omega), turnC_at _ hb, Bool.eq_iff_iff, beq_iff_eq, beq_iff_eq]
    constructor
    · intro h; rw [← h]; exact ((swap_facts _ (hl b hb)).2.2.2.2).symm
    · intro h; rw [h]; exact m3
  have hbad : ∀ x ∈ pieces14, badX (turnS p.cells) x = badX p.cells (swapN x) := by
    intro x hx
    obtain ⟨m1, m2, m3, m4, m5⟩ := swap14' x hx
    unfold badX
    rw [hcnt x hx, m4, m5]
  have e2 : pieces14.any (badX (turnS p.cells)) = pieces14.any (badX p.cells) := by
    rw [Bool.eq_iff_iff, List.any_eq_true, List.any_eq_true]
    constructor
    · rintro ⟨x, hx, h⟩
      exact ⟨swapN x, (swap14' x hx).1, by rw [← hbad x hx]; exact h⟩
    · rintro ⟨x, hx, h⟩
      refine ⟨swapN x, (swap14' x hx).1, ?_⟩
      rw [hbad _ (swap14' x hx).1, (swap14' x hx).2.2.1]
      exact h
  have hone : ∀ n, n < 90 → (cel (turnS p.cells) n == 46 || mayN (cel (turnS p.cells) n) n) = (cel p.cells (89 - n) == 46 || mayN (cel p.cells (89 - n)) (89 - n)) := by
    intro n hn
    rw [hc n hn]
    have hfl : 89 - (89 - n) = n := by omega
    have := may_turn _ (hl (89 - n) (by omega)) ⟨89 - n, by omega⟩
    simp only [hfl] at this
    have e46 : (turnC (cel p.cells) n == 46) = (cel p.cells (89 - n) == 46) := by
      have := turnC_empty hl (n := 89 - n) (by omega)
      rw [hfl] at this
      exact this
    rw [e46]
    unfold turnC
    rw [this]
  have e3 : rightX (turnS p.cells) 90 = rightX p.cells 90 := by
    unfold rightX
    rw [Bool.eq_iff_iff, List.all_eq_true, List.all_eq_true]
    constructor
    · intro h n hn
      have hn := List.mem_range.1 hn
      have := h (89 - n) (List.mem_range.2 (by omega))
      rw [hone _ (by omega), show 89 - (89 - n) = n by omega] at this
      exact this
    · intro h n hn
      have hn := List.mem_range.1 hn
      rw [hone _ hn]
      exact h (89 - n) (List.mem_range.2 (by omega))
  unfold checkP
  rw [e1, show (turnP p).cells = turnS p.cells from rfl, e2, e3]
end Go.Proofs.YtafmapadkpjliaaGreatDoor.K

/- CheckTurn: plain law (2). -/
namespace Go.Proofs.YtafmapadkpjliaaGreatDoor.K
open Go.RowKit Go.Lib Go.Proofs.YtafmapadkpjliaaGreatDoorW.PrintWords Go.Proofs.YtafmapadkpjliaaGreatDoor.Sp
set_option linter.unusedVariables false
/-- One general of each side. -/
structure OneK (s : ByteArray) (a b : Nat) : Prop where
  bd : isBoard s = true
  fa : findS s 75 = [a]
  fb : findS s 107 = [b]
theorem OneK.lt {s : ByteArray} {a b : Nat} (h : OneK s a b) : a < 90 ∧ b < 90 :=
  ⟨(findS_lt s 75 a (by rw [h.fa]; exact List.mem_cons_self)).1, (findS_lt s 107 b (by rw [h.fb]; exact List.mem_cons_self)).1⟩
theorem OneK.gen {s : ByteArray} {a b : Nat} (h : OneK s a b) : genS s 0 = a ∧ genS s 1 = b := by
  constructor
  · unfold genS; rw [if_pos (.inl rfl), show kingO 0 = 75 from rfl, h.fa]; rfl
  · unfold genS; rw [if_pos (.inr rfl), show kingO 1 = 107 from rfl, h.fb]; rfl
theorem OneK.turn {s : ByteArray} {a b : Nat} (h : OneK s a b) : OneK (turnS s) (89 - b) (89 - a) := by
  refine ⟨(turnS_is h.bd).1, ?_, ?_⟩
  · rw [find_turn h.bd 75 (by decide), show swapN 75 = 107 by decide, h.fb]; rfl
  · rw [find_turn h.bd 107 (by decide), show swapN 107 = 75 by decide, h.fa]; rfl
theorem oneK_of {s : ByteArray} (hs : isBoard s = true) (h1 : (findS s 75).length = 1) (h2 : (findS s 107).length = 1) : ∃ a b, OneK s a b := by
  obtain ⟨a, ha⟩ := List.length_eq_one_iff.1 h1
  obtain ⟨b, hb⟩ := List.length_eq_one_iff.1 h2
  exact ⟨a, b, hs, ha, hb⟩
theorem fac_turn {s : ByteArray} {a b : Nat} (h : OneK s a b) : facS (turnS s) = facS s := by
  obtain ⟨la, lb⟩ := h.lt
  obtain ⟨g0, g1⟩ := h.gen
  obtain ⟨t0, t1⟩ := h.turn.gen
  obtain ⟨htb, htc⟩ := turnS_is h.bd
  have hl : ∀ n, n < 90 → cel s n ∈ letters := fun n hn => board_cell h.bd hn
  have hbt : betwS (turnS s) ((89 - b : Nat) : Int) ((89 - a : Nat) : Int) = betwS s (a : Int) (b : Int) := by
    unfold betwS
    rw [if_pos ⟨htb, ⟨by omega, by omega⟩, ⟨by omega, by omega⟩⟩, if_pos ⟨h.bd, ⟨by omega, by omega⟩, ⟨by omega, by omega⟩⟩]
    simp only [Int.toNat_natCast]
    rw [betw_congr htc (by omega) (by omega), betw_turn hl lb la, betw_sym _ lb la]
  have hfl : (fileS ((89 - b : Nat) : Int) == fileS ((89 - a : Nat) : Int)) = (fileS (a : Int) == fileS (b : Int)) := by
    unfold fileS
    rw [if_pos ⟨by omega, by omega⟩, if_pos ⟨by omega, by omega⟩, if_pos ⟨by omega, by omega⟩, if_pos ⟨by omega, by omega⟩, Bool.eq_iff_iff, beq_iff_eq, beq_iff_eq]
    omega
  unfold facS
  rw [g0, g1, t0, t1, hbt, hfl, decide_eq_true (show (0 : Int) ≤ ((89 - b : Nat) : Int) by omega), decide_eq_true (show (0 : Int) ≤ ((89 - a : Nat) : Int) by omega), decide_eq_true (show (0 : Int) ≤ (a : Int) by omega), decide_eq_true (show (0 : Int) ≤ (b : Int) by omega)]
theorem in_turn {s : ByteArray} {a b : Nat} (h : OneK s a b) (x : Int) (hx : x = 0 ∨ x = 1) : inS (turnS s) (1 - x) = inS s x := by
  obtain ⟨la, lb⟩ := h.lt
  obtain ⟨g0, g1⟩ := h.gen
  obtain ⟨t0, t1⟩ := h.turn.gen
  have key : ∀ g : Nat, g < 90 → (attS (turnS s) ((89 - g : Nat) : Int) (1 - (1 - x))).length = (attS s (g : Int) (1 - x)).length := by
    intro g hg
    rw [att_turn h.bd g hg (1 - x) (by omega), List.length_reverse, List.length_map]
  unfold inS
  rcases hx with rfl | rfl
  · rw [show (1 : Int) - 0 = 1 from rfl, t1, g0]
    have := key a la
    rw [show (1 : Int) - 0 = 1 from rfl] at this
    rw [this, decide_eq_true (show (0 : Int) ≤ ((89 - a : Nat) : Int) by omega), decide_eq_true (show (0 : Int) ≤ (a : Int) by omega)]
  · rw [show (1 : Int) - 1 = 0 from rfl, t0, g1]
    have := key b lb
    rw [show (1 : Int) - 1 = 0 from rfl] at this
    rw [this, decide_eq_true (show (0 : Int) ≤ ((89 - b : Nat) : Int) by omega), decide_eq_true (show (0 : Int) ≤ (b : Int) by omega)]
theorem check_one {p : Pos} (h : checkP p = 0) : ∃ a b, OneK p.cells a b := by
  have hok : argOk p = true := by
    cases hok : argOk p
    · unfold checkP at h; rw [hok] at h; simp at h
    · rfl
  obtain ⟨hb, _⟩ := argOk_yes hok
  have hany : pieces14.any (badX p.cells) = false := by
    cases hq : pieces14.any (badX p.cells)
    · rfl
    · unfold checkP at h; rw [hok, hq] at h; simp at h
  have key : ∀ x, x ∈ pieces14 → kindN x = 75 → (findS p.cells x).length = 1 := by
    intro x hx hk
    have hb2 : badX p.cells x = false := by
      cases hq : badX p.cells x
      · rfl
      · exact absurd (List.any_eq_true.2 ⟨x, hx, hq⟩) (by rw [hany]; decide)
    unfold badX at hb2
    simp only [Bool.or_eq_false_iff, Bool.and_eq_false_iff] at hb2
    have h1 : cntX p.cells 90 x = 1 := by
      rcases hb2.2 with h2 | h2
      · rw [hk] at h2; simp at h2
      · simpa using h2
    unfold findS
    rw [if_pos hb, ← List.countP_eq_length_filter]
    unfold cntX at h1
    rw [← h1]
    refine List.countP_congr fun i _ => ?_
    simp
  exact oneK_of hb (key 75 (by decide) (by decide)) (key 107 (by decide) (by decide))
/-- What is wrong with a position, seen from the other side. -/
theorem well_turn {p : Pos} (hb : isBoard p.cells = true) (hs : p.side = 0 ∨ p.side = 1) : wellS (turnP p) = wellS p := by
  unfold wellS
  rw [check_turn' hb hs]
  by_cases hc : checkP p = 0
  · have e : ¬ (checkP p ≠ 0) := by simpa using hc
    rw [if_neg e, if_neg e]
    obtain ⟨a, b, h1⟩ := check_one hc
    rw [show (turnP p).cells = turnS p.cells from rfl, fac_turn h1, show (1 : Int) - (turnP p).side = 1 - (1 - p.side) from rfl, in_turn h1 (1 - p.side) (by omega)]
  · rw [if_pos hc, if_pos hc]
end Go.Proofs.YtafmapadkpjliaaGreatDoor.K

/- Plain law: the moves that may be made, seen from the other side. -/
namespace Go.Proofs.YtafmapadkpjliaaGreatDoor.K
open Go.RowKit Go.Lib Go.Proofs.YtafmapadkpjliaaGreatDoorW.PrintWords Go.Proofs.YtafmapadkpjliaaGreatDoor.Sp
set_option linter.unusedVariables false
set_option linter.unusedSimpArgs false
theorem board_same {s t : ByteArray} (hs : s.size = 90) (ht : t.size = 90) (h : ∀ n, n < 90 → cel s n = cel t n) : s = t := by
  apply ByteArray.ext
  apply Array.ext
  · exact hs.trans ht.symm
  · intro i h1 h2
    have h1' : i < s.size := h1
    have h2' : i < t.size := h2
    have e := h i (by omega)
    rw [← cel_get s i h1', ← cel_get t i h2'] at e
    exact UInt8.toNat_inj.1 e
theorem moved_turn {s : ByteArray} (hs : isBoard s = true) {a b : Nat} (hm : isBoard (movedB s a b) = true) (ha : a < 90) (hb : b < 90) (hab : a ≠ b) : movedB (turnS s) (89 - a) (89 - b) = turnS (movedB s a b) := by
  obtain ⟨ht, hc⟩ := turnS_is hs
  obtain ⟨ht2, hc2⟩ := turnS_is hm
  have hz := board_size hs
  have hz2 := board_size ht
  refine board_same (by rw [moved_size, hz2]) (board_size ht2) (fun n hn => ?_)
  rw [moved_cel (by omega) (by omega) (by omega), hc2 n hn]
  unfold turnC moveC setC
  rw [moved_cel (by omega) (by omega) (by omega)]
  unfold moveC setC
  by_cases h1 : n = 89 - a
  · rw [if_pos h1, if_pos (show 89 - n = a by omega)]; rfl
  · rw [if_neg h1]
    by_cases h2 : n = 89 - b
    · rw [if_pos h2, if_neg (show ¬ 89 - n = a by omega), if_pos (show 89 - n = b by omega), hc _ (by omega)]
      unfold turnC
      rw [show 89 - (89 - a) = a by omega]
    · rw [if_neg h2, if_neg (show ¬ 89 - n = a by omega), if_neg (show ¬ 89 - n = b by omega), hc n hn]; rfl
theorem flip_mem {p : Pos} (hck : checkP p = 0) {m : Mv} (hm : m ∈ gathP p (fun _ => true)) : flipM m ∈ gathP (turnP p) (fun _ => true) := by
  rw [gath_turn hck, List.mem_reverse]
  exact List.mem_map_of_mem hm
theorem may_flip {p : Pos} (hck : checkP p = 0) {m : Mv} (hm : m ∈ gathP p (fun _ => true)) : mayR (turnS p.cells) (1 - p.side) (flipM m) = mayR p.cells p.side m := by
  obtain ⟨_, h1, h2, h3, h4, _⟩ := gath_mem hm
  obtain ⟨hbd, hsd, _⟩ := argOk_yes (checkP_parts hck).1
  obtain ⟨_, hc⟩ := turnS_is hbd
  obtain ⟨_, _, _, hab, _⟩ := move_parts hck h1 h2 h3 h4
  obtain ⟨ma, mb⟩ := m
  simp only at h1 h2 h3 h4 hab
  have hk : kindN (cel (turnS p.cells) (89 - mb)) = kindN (cel p.cells mb) := by
    rw [hc _ (by omega), turnC_at _ h2, (swap_facts _ (board_cell hbd h2)).2.2.1]
  unfold mayR flipM
  simp only
  rw [hk]
  by_cases hk75 : kindN (cel p.cells mb) = 75
  · rw [hk75]; rfl
  · obtain ⟨hq, hmb, _⟩ := right_after hck h1 h2 h3 h4 hk75 0 1 (by omega) (by omega)
    obtain ⟨x, y, ho⟩ := check_one hq
    simp only at ho
    rw [moved_turn hbd hmb h1 h2 hab]
    unfold safeR
    rw [fac_turn ho, in_turn ho p.side hsd]
theorem legal_turn {p : Pos} (hb : isBoard p.cells = true) (hs : p.side = 0 ∨ p.side = 1) : legalL (turnP p) = ((legalL p).map flipM).reverse := by
  have hw := well_turn hb hs
  by_cases h : wellS p = 0
  · have hck := well_check h
    have hw0 : wellS (turnP p) = 0 := by rw [hw, h]
    have hck' := well_check hw0
    have e1 : legalL (turnP p) = (gathP (turnP p) (fun _ => true)).filter (mayR (turnS p.cells) (1 - p.side)) := by
      unfold legalL
      rw [if_pos hw0]
      exact List.filter_congr fun m hm => safe_may hck' hm
    have e2 : legalL p = (gathP p (fun _ => true)).filter (mayR p.cells p.side) := by
      unfold legalL
      rw [if_pos h]
      exact List.filter_congr fun m hm => safe_may hck hm
    rw [e1, e2, gath_turn hck, List.filter_reverse, List.filter_map]
    congr 2
    exact List.filter_congr fun m hm => may_flip hck hm
  · rw [legal_no h, legal_no (by rw [hw]; exact h)]; rfl
theorem end_turn {p : Pos} (h : wellS p = 0) : endS (turnP p) = endS p := by
  have hck := well_check h
  obtain ⟨hbd, hsd, _⟩ := argOk_yes (checkP_parts hck).1
  obtain ⟨x, y, ho⟩ := check_one hck
  rw [end_eq, end_eq, well_turn hbd hsd, legal_turn hbd hsd, List.length_reverse, List.length_map]
  have e : inS (turnP p).cells (turnP p).side = inS p.cells p.side := in_turn ho p.side hsd
  rw [e]
end Go.Proofs.YtafmapadkpjliaaGreatDoor.K
