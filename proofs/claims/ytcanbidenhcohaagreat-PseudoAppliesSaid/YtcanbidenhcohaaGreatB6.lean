/- Walks and plain laws that several statements lean on, joined: no statement of the seat is proved here. -/
import Derived.WalkKit
import Derived.ProofKit
import Derived.Deep.Slices
import Derived.WideShapes
import Derived.ChangeArms
import Derived.DataReads
import Derived.Test.YtcanbidenhcohaaGreatB5

/- Walks: the reference's Find. -/
namespace Go.Proofs.YtcanbidenhcohaaGreat.K
open Go.RowKit Go.Lib Go.Proofs.YtcanbidenhcohaaGreatW.PrintWords Go.Proofs.YtcanbidenhcohaaGreat.Sp
set_option linter.unusedVariables false
set_option linter.unusedSimpArgs false
attribute [local go_sem] cel_get   -- for this text's walks alone
def flatI (l : List Nat) : List Value := l.map (fun (n : Nat) => Value.int .i64 (n : Int))
theorem flatI_append (l : List Nat) (x : Nat) : flatI (l ++ [x]) = flatI l ++ [.int .i64 (x : Int)] := by simp [flatI]
/-- A row of numbers of the call's own, from block B on. -/
def OwnI (W : World) (B : Nat) (v : Value) (l : List Nat) : Prop := W.ownsRow B 3 1 v l.length (flatI l)
theorem OwnI.below {W W' : World} {B : Nat} {v : Value} {l : List Nat} (h : OwnI W B v l) (hb : Below W.heap.size W W') : OwnI W' B v l := pw_own_below h hb
theorem OwnI.lower {W : World} {B B' : Nat} {v : Value} {l : List Nat} (h : OwnI W B v l) (hb : B' ≤ B) : OwnI W B' v l := by
  obtain ⟨h1, h2 | ⟨g, cap, cur, h2, h3, h4⟩⟩ := h
  · exact ⟨h1, .inl h2⟩
  · exact ⟨h1, .inr ⟨g, cap, cur, h2, Nat.le_trans hb h3, h4⟩⟩
/-- Its length stands in it. -/
theorem OwnI.form {W : World} {B : Nat} {v : Value} {l : List Nat} (h : OwnI W B v l) : ∃ A cap, v = .slice A l.length cap := by
  obtain ⟨h1, ⟨h2, h3⟩ | ⟨g, cap, cur, h2, h3, h4⟩⟩ := h
  · exact ⟨none, 0, by rw [h2, h3]⟩
  · exact ⟨_, _, h2⟩
theorem info_int : (Tryz.prog.info? 3).map (fun i => (i.zero, i.size, i.bytes)) = some (some (.int .i64 0), 1, 8) := by kernel_rfl
/-- The squares, of the first n, that hold x. -/
def findL (s : ByteArray) (x n : Nat) : List Nat := (List.range n).filter (fun i => cel s i == x)
theorem findL_succ (s : ByteArray) (x n : Nat) : findL s x (n + 1) = findL s x n ++ (if cel s n = x then [n] else []) := by
  unfold findL
  rw [List.range_succ, List.filter_append]
  congr 1
  split <;> simp_all
theorem findL_len (s : ByteArray) (x n : Nat) : (findL s x n).length = cntX s n x := by
  unfold findL cntX; rw [List.countP_eq_length_filter]
def findN (s : ByteArray) (x : Nat) : List Nat := if isBoard s = true then findL s x 90 else []
/-- What Find's loop keeps. -/
structure FindAt (w0 W : World) (v : Value) (l : List Nat) : Prop where
  own : OwnI W w0.heap.size v l
  bel : Below w0.heap.size w0 W
theorem FindAt.below {w0 W W' : World} {v : Value} {l : List Nat} (h : FindAt w0 W v l) (hb : Below W.heap.size W W') : FindAt w0 W' v l :=
  ⟨h.own.below hb, h.bel.trans (hb.mono h.bel.size)⟩
theorem FindAt.grown {w0 W W1 : World} {v v1 : Value} {l l1 : List Nat} (h : FindAt w0 W v l) (hg : W.grownBy W1 v.ownBlock) (ho : OwnI W1 w0.heap.size v1 l1) : FindAt w0 W1 v1 l1 :=
  ⟨ho, h.bel.grown hg h.bel.size (fun k hk => (h.own.lt k hk).1)⟩
set_option maxRecDepth 100000 in
set_option maxHeartbeats 4000000 in
theorem rfind_c (s : ByteArray) (hmx : s.size ≤ maxLen) (x : Nat) (hx : x < 256) (w : World) :
    Calls Tryz.prog 29 #[.string s, .int .u8 (x : Int)] w fun e w' => ∃ v, e = .returned v ∧ OwnI w' w.heap.size v (findN s x) ∧ Below w.heap.size w w' := by
  have HIS := Aside0.mk (fun W => ris_c s hmx W)
  clear hmx
  cases hs : isBoard s
  case false =>
    rw [show findN s x = [] by unfold findN; rw [hs]; rfl]
    rw [hs] at HIS
    clear hs
    go_enter Tryz.func29, Tryz.ntmps29
    go_wp2_with fail
    refine (HIS.out _).mono ?_
    rintro e w1 ⟨rfl, rfl⟩
    go_wp2_with fail
    go_ret
    exact ⟨_, rfl, own_nil _ _ _ _, Below.refl _ _⟩
  case true =>
  have HR := Aside0.mk (show findN s x = findL s x 90 by unfold findN; rw [hs]; rfl)
  have HSZ := Aside0.mk (board_size hs)
  rw [hs] at HIS
  clear hs
  obtain ⟨i0, hi0, hx0⟩ := Option.map_eq_some_iff.1 info_int
  simp only [Prod.mk.injEq] at hx0
  have HZ := Aside0.mk (⟨hi0, hx0⟩ : _ ∧ _)
  clear hx0 hi0
  have hsz : (s.size : Int) = 90 := by rw [HSZ.out]; rfl
  go_enter Tryz.func29, Tryz.ntmps29
  go_wp2_with fail
  refine (HIS.out _).mono ?_
  rintro e w1 ⟨rfl, rfl⟩
  go_wp2_with fail
  go_loopg [5, 6] 90 (fun gg s5 s6 wr => ∃ i : Nat, s6 = .int .i64 i ∧ i + gg = 90 ∧ Aside0 (FindAt w1 wr s5 (findL s x i)))
  case atStart => exact ⟨0, rfl, by omega, ⟨⟨own_nil _ _ _ _, Below.refl _ _⟩⟩⟩
  case round =>
    obtain ⟨i, rfl, hi, HG⟩ := hrel
    cases gk with
    | zero =>
      have hn : ¬ ((i : Int) < 90) := by omega
      have HI := Aside0.mk (show i = 90 by omega)
      clear hi
      go_wp2_with fail
      go_ret
      refine ⟨_, rfl, ?_, HG.out.bel⟩
      rw [HR.out, ← HI.out]
      exact HG.out.own
    | succ g =>
      have hn : ((i : Int) < 90) := by omega
      have HI := Aside0.mk (show i + 1 + g = 90 by omega)
      have HLN := Aside0.mk (show (findL s x i).length ≤ 90 by rw [findL_len]; have := cntX_le s i x; have := HI.out; omega)
      have hq : (((cel s i : Nat) : Int) == (x : Int)) = (cel s i == x) := by rw [Bool.eq_iff_iff, beq_iff_eq, beq_iff_eq]; omega
      clear hi
      cases hc : (cel s i == x)
      case false =>
        have HF := Aside0.mk (show findL s x (i + 1) = findL s x i by rw [findL_succ, if_neg (by simpa using hc), List.append_nil])
        rw [hc] at hq
        clear hc
        go_wp2_with fail
        go_roundg g
        case measure => omega
        case rel => exact ⟨i + 1, rfl, HI.out, ⟨by rw [HF.out]; exact HG.out⟩⟩
      case true =>
        have HF := Aside0.mk (show findL s x (i + 1) = findL s x i ++ [i] by rw [findL_succ, if_pos (by simpa using hc)])
        rw [hc] at hq
        clear hc
        generalize findL s x i = l at *
        go_wp2_with (first | (at_builtin; refine hold ?_))
        refine Hold.go ?_
        refine wpList_append_lies _ (by rfl) _ _ _ (by rfl) w1.heap.size 3 i0 _ 1 8 Tryz.underlying43 HZ.out.1 HZ.out.2.1 HZ.out.2.2.1 HZ.out.2.2.2 rfl (by omega) _ l.length (flatI l) (by rfl) (HG.out.own.below (below_alloc (Below.refl _ _) _)) ⟨wr.heap.size, 0, none⟩ 1 1 [.int .i64 (i : Int)] (by rfl) (by rfl) (World.news_of_block (cs := #[.int .i64 (i : Int)]) (t := 3) (fr := (0, 0)) (news_own _ _)) (by simp [Value.oneCell']) (by omega) (by have := HLN.out; unfold maxLen; omega) (by have := HLN.out; omega) (by have := HG.out.bel.size; simp; omega) _ rfl ?_
        intro gg cap1 w2 hown1 hgrow hat hlt1
        have HO1 := Aside0.mk hown1
        have HGR := Aside0.mk hgrow
        clear hown1 hgrow hat
        go_wp2_with fail
        go_roundg g
        case measure => omega
        case rel =>
          refine ⟨i + 1, rfl, HI.out, ⟨?_⟩⟩
          rw [HF.out]
          refine (HG.out.below (below_alloc (Below.refl _ _) _)).grown HGR.out ?_
          have ho := HO1.out
          unfold OwnI
          rw [flatI_append, List.length_append]
          exact ho
end Go.Proofs.YtcanbidenhcohaaGreat.K

/- Walk: the reference's Check. -/
namespace Go.Proofs.YtcanbidenhcohaaGreat.K
open Go.RowKit Go.Lib Go.Proofs.YtcanbidenhcohaaGreatW.PrintWords Go.Proofs.YtcanbidenhcohaaGreat.Sp
set_option linter.unusedVariables false
set_option linter.unusedSimpArgs false
attribute [local go_sem] cel_get   -- for this text's walks alone
/-- The letters' bytes. -/
theorem letter_at : ∀ i, i < 14 → cel { data := #[75, 65, 66, 78, 82, 67, 80, 107, 97, 98, 110, 114, 99, 112] } i = pieces14.getD i 0 := by decide
/-- A position's box, whose cells alone are read. -/
structure CkAt (w0 W : World) (s : ByteArray) : Prop where
  c0 : W.cell? ⟨w0.heap.size, 0, none⟩ = some (.string s)
  bel : Below w0.heap.size w0 W
theorem CkAt.below {w0 W W' : World} {s : ByteArray} (h : CkAt w0 W s) (hb : Below W.heap.size W W') : CkAt w0 W' s := ⟨below_cell hb _ _ _ h.c0, h.bel.trans (hb.mono h.bel.size)⟩
theorem CkAt.drew {w0 W : World} {s : ByteArray} (h : CkAt w0 W s) : CkAt w0 W.drew s := h.below (pw_below_drewN (Below.refl _ _) 1)
set_option maxRecDepth 100000 in
set_option maxHeartbeats 4000000 in
theorem rcheck_bad (p : Pos) (hmx : p.cells.size ≤ maxLen) (ha : argOk p = false) (w : World) : Calls Tryz.prog 15 #[posV p] w fun e w' => e = .returned (.int .i64 (checkP p)) ∧ Below w.heap.size w w' := by
  have HI := Aside0.mk (fun W => ris_c p.cells hmx W)
  have hu := Tryz.underlying23
  rw [show checkP p = 1 by unfold checkP; rw [if_pos ha]]
  have HN := Aside0.mk (argOk_no ha)
  clear ha hmx
  generalize isBoard p.cells = bb at HI HN
  have HB := Aside0.mk (below_alloc (Below.refl w.heap.size w) (.cells #[.string p.cells, .int .i64 p.side, .int .i64 p.clock, .int .i64 p.full] 23))
  go_enter Tryz.func15, Tryz.ntmps15
  go_upto_region 3 with (go_at_call 28; refine (HI.out _).mono ?_; rintro e w1 ⟨rfl, rfl⟩)
  all_goals
    first
    | (go_ret; exact ⟨rfl, HB.out⟩)
    | (exfalso
       have hn := HN.out
       clear HN HB HI
       simp_all
       done)
    | (exfalso
       have hn := HN.out
       clear HN HB HI
       simp_all
       omega)
theorem right_all {s : ByteArray} {n m : Nat} (h : n ≤ m) (hr : rightX s n = false) : rightX s m = false := by
  unfold rightX at *
  rw [List.all_eq_false] at *
  obtain ⟨x, hx, hq⟩ := hr
  exact ⟨x, List.mem_range.2 (by have := List.mem_range.1 hx; omega), hq⟩
set_option maxRecDepth 100000 in
set_option maxHeartbeats 4000000 in
theorem rcheck_ok (p : Pos) (ha : argOk p = true) (w : World) : Calls Tryz.prog 15 #[posV p] w fun e w' => e = .returned (.int .i64 (checkP p)) ∧ Below w.heap.size w w' := by
  obtain ⟨hbd, hsd, hc1, hc2, hf1, hf2⟩ := argOk_yes ha
  have hmx : p.cells.size ≤ maxLen := by rw [board_size hbd]; unfold maxLen; omega
  have HI := Aside0.mk (fun W => ris_c p.cells hmx W)
  have hu := Tryz.underlying23
  have HP := Aside0.mk (show checkP p = if pieces14.any (badX p.cells) = true then 3 else if rightX p.cells 90 = false then 2 else 0 by unfold checkP; rw [ha]; rfl)
  have HSZ := Aside0.mk (board_size hbd)
  have HBD := Aside0.mk hbd
  rw [hbd] at HI
  clear ha hbd
  have hs0 : 0 ≤ p.side := by omega
  have hs1 : p.side ≤ 1 := by omega
  clear hsd
  have HCK := Aside0.mk (show CkAt w (w.alloc (.cells #[.string p.cells, .int .i64 p.side, .int .i64 p.clock, .int .i64 p.full] 23)) p.cells from ⟨by simp [World.cell?_alloc_at], below_alloc (Below.refl _ _) _⟩)
  go_enter Tryz.func15, Tryz.ntmps15
  go_upto_region 3 with (go_at_call 28; refine (HI.out _).mono ?_; rintro e w1 ⟨rfl, rfl⟩)
  generalize w.alloc (.cells #[.string p.cells, .int .i64 p.side, .int .i64 p.clock, .int .i64 p.full] 23) = W0 at *
  clear hs0 hs1 hc1 hc2 hf1 hf2
  go_wp2_with fail
  go_loopg [4] 14 (fun gg s4 wr => ∃ i : Nat, s4 = .int .i64 i ∧ i + gg = 14 ∧ Aside0 (CkAt w wr p.cells) ∧ Aside0 (∀ j, j < i → badX p.cells (pieces14.getD j 0) = false))
  case atStart => exact ⟨0, rfl, by omega, HCK, ⟨fun j hj => by omega⟩⟩
  case round =>
    clear HCK
    obtain ⟨i, rfl, hi, HC, HBX⟩ := hrel
    cases gk with
    | zero =>
      have hn : ¬ ((i : Int) < 14) := by omega
      have hi14 : i = 14 := by omega
      subst hi14
      have HNA := Aside0.mk (none14 p.cells HBX.out)
      clear hi HBX
      go_wp2_with fail
      go_loopg [6] 90 (fun gg s6 wr => ∃ i : Nat, s6 = .int .i64 i ∧ i + gg = 90 ∧ Aside0 (CkAt w wr p.cells) ∧ Aside0 (rightX p.cells i = true))
      case atStart => exact ⟨0, rfl, by omega, HC, ⟨rfl⟩⟩
      case round =>
        clear HC
        obtain ⟨j, rfl, hj, HC, HRT⟩ := hrel
        cases gk with
        | zero =>
          have hn2 : ¬ ((j : Int) < 90) := by omega
          have HJ := Aside0.mk (show j = 90 by omega)
          clear hj
          go_wp2_with fail
          go_ret
          refine ⟨ret_int ?_, HC.out.bel⟩
          rw [HP.out, HNA.out, ← HJ.out, HRT.out]; simp
        | succ g =>
          have hn2 : (j : Int) < 90 := by omega
          have HJ := Aside0.mk (show j + 1 + g = 90 by omega)
          have c0 := HC.out.c0
          have hsz : (j : Int) < p.cells.size := by rw [HSZ.out]; omega
          have hle := board_cell HBD.out (show j < 90 by omega)
          have h2 : ∀ x ∈ letters, x ≠ 46 → 0 ≤ sideN x := by decide
          have HM := Aside0.mk (fun (h : cel p.cells j ≠ 46) W => rmay_c (cel p.cells j) (h2 _ hle h) j (by omega) W)
          have hrx := rightX_succ p.cells j
          rw [HRT.out, Bool.true_and] at hrx
          have HF90 := Aside0.mk (fun (h : rightX p.cells (j + 1) = false) => right_all (show j + 1 ≤ 90 by omega) h)
          clear h2 hle
          generalize hx : cel p.cells j = x at *
          have q := bne46 x
          have HX := Aside0.mk hx
          generalize mayN x j = mm at *
          have HRX := Aside0.mk hrx
          clear hrx hj
          cases h46 : (x != 46) <;> cases mm
          all_goals
            rw [h46] at q
            have H46 := Aside0.mk h46
            clear h46
            go_wp2_with (go_at_call 31; refine (HM.out (by have := H46.out; simpa using this) _).mono ?_; rintro e w3 ⟨rfl, rfl⟩)
            first
            | (go_ret
               refine ⟨ret_int ?_, HC.out.bel⟩
               rw [HP.out, HNA.out, HF90.out (by rw [HRX.out]; have := H46.out; simp_all)]; rfl)
            | (go_roundg g
               case measure => have := HJ.out; omega
               case rel => exact ⟨j + 1, by go_num, by have := HJ.out; omega, HC, ⟨by rw [HRX.out]; have := H46.out; simp_all⟩⟩)
    | succ g =>
      have hn : (i : Int) < 14 := by omega
      have hi14 : i < 14 := by omega
      have HG := Aside0.mk (show i + 1 + g = 14 by omega)
      have hx := piece_lt i hi14
      have hl := letter_at i hi14
      have HFI := Aside0.mk (fun W => rfind_c p.cells (by rw [HSZ.out]; unfold maxLen; omega) (pieces14.getD i 0) hx W)
      have HMO := Aside0.mk (fun W => rmost_c (pieces14.getD i 0) hx W)
      have HKI := Aside0.mk (fun W => rkind_c (pieces14.getD i 0) hx W)
      have hbx : badX p.cells (pieces14.getD i 0) = (decide (mostN (pieces14.getD i 0) < cntX p.cells 90 (pieces14.getD i 0)) || (kindN (pieces14.getD i 0) == 75 && cntX p.cells 90 (pieces14.getD i 0) != 1)) := rfl
      have hfl : (findN p.cells (pieces14.getD i 0)).length = cntX p.cells 90 (pieces14.getD i 0) := by unfold findN; rw [HBD.out, if_pos rfl, findL_len]
      have hcle := cntX_le p.cells 90 (pieces14.getD i 0)
      have hkq := kindN_q (pieces14.getD i 0)
      have HANY := Aside0.mk (any14 p.cells i hi14)
      generalize hxx : pieces14.getD i 0 = x at *
      generalize cntX p.cells 90 x = cc at *
      generalize mostN x = m at *
      generalize kindN x = k at *
      have HBE := Aside0.mk hbx
      have HFL := Aside0.mk hfl
      have hcq : ((cc : Int) != 1) = (cc != 1) := by rw [Bool.eq_iff_iff, bne_iff_ne, bne_iff_ne]; omega
      have HXX := Aside0.mk hxx
      clear hbx hxx hi hfl
      have c0 := HC.out.c0
      go_wp2_with fail
      go_region_held3 (fun W => W.cell? ⟨w.heap.size, 0, none⟩ = some (.string p.cells)) (go_keep)
        (first
          | (go_at_call 29; refine (HFI.out _).mono ?_; rintro e w2 ⟨v, rfl, hv, hb⟩; obtain ⟨A, cap, rfl⟩ := hv.form; have HC2 := Aside0.mk (HC.out.drew.below hb); have c0' := HC2.out.c0; rw [HFL.out]; clear hv hb))
      have HC3 := HC2
      clear HC HC2 c0 c0'
      generalize findN p.cells x = fl at *
      cases b1 : decide (m < cc)
      all_goals cases b2 : (k == 75)
      all_goals cases b3 : (cc != 1)
      all_goals
        rw [b2] at hkq
        rw [b3] at hcq
        have HB123 : Aside0 (badX p.cells x = (decide (m < cc) || (k == 75 && cc != 1))) := HBE
        rw [b1, b2, b3] at HB123
        clear b2 b3
        go_wp2_with (first | (go_at_call 30; refine (HMO.out _).mono ?_; rintro e w3 ⟨rfl, rfl⟩) | (go_at_call 26; refine (HKI.out _).mono ?_; rintro e w4 ⟨rfl, rfl⟩))
        first
        | (go_ret
           refine ⟨ret_int ?_, ?_⟩
           · rw [HP.out, if_pos (HANY.out (by rw [HB123.out]; rfl))]
           · exact HC3.out.bel)
        | (go_roundg g
           case measure => have := HG.out; omega
           case rel => exact ⟨i + 1, by go_num, by have := HG.out; omega, HC3, ⟨fun j hj => by
             by_cases h : j = i
             · subst h; rw [HXX.out, HB123.out]; rfl
             · exact HBX.out j (by omega)⟩⟩)
theorem rcheck_c (p : Pos) (hmx : p.cells.size ≤ maxLen) (w : World) : Calls Tryz.prog 15 #[posV p] w fun e w' => e = .returned (.int .i64 (checkP p)) ∧ Below w.heap.size w w' := by
  cases ha : argOk p
  · exact rcheck_bad p hmx ha w
  · exact rcheck_ok p ha w
end Go.Proofs.YtcanbidenhcohaaGreat.K

/- Walks: the reference's moves of a position. -/
namespace Go.Proofs.YtcanbidenhcohaaGreat.K
open Go.RowKit Go.Lib Go.Proofs.YtcanbidenhcohaaGreatW.PrintWords Go.Proofs.YtcanbidenhcohaaGreat.Sp
set_option linter.unusedVariables false
set_option linter.unusedSimpArgs false
attribute [local go_sem] cel_get   -- for this text's walks alone
/-- The moves from a square to the first j squares. -/
def uptoM (s : ByteArray) (a j : Nat) : List Mv := ((List.range j).filter (fastN (cel s) a)).map (fun b => (a, b))
theorem uptoM_succ (s : ByteArray) (a j : Nat) : uptoM s a (j + 1) = uptoM s a j ++ (if fastN (cel s) a j = true then [(a, j)] else []) := by
  unfold uptoM
  rw [List.range_succ, List.filter_append, List.map_append]
  congr 1
  cases h : fastN (cel s) a j <;> simp [h]
theorem uptoM_len (s : ByteArray) (a j : Nat) : (uptoM s a j).length ≤ j := by
  unfold uptoM
  rw [List.length_map]
  exact Nat.le_trans (List.length_filter_le _ _) (by simp)
theorem fromM_all (s : ByteArray) (side : Int) (a : Nat) : fromM s side (fun _ => true) a = if sideN (cel s a) = side then uptoM s a 90 else [] := by
  unfold fromM uptoM allN
  split
  · simp
  · rfl
/-- What the reference's loops keep. -/
structure OfAt (w0 W : World) (v : Value) (l : List Mv) : Prop where
  own : OwnM W w0.heap.size v l
  bel : Below w0.heap.size w0 W
theorem OfAt.below {w0 W W' : World} {v : Value} {l : List Mv} (h : OfAt w0 W v l) (hb : Below W.heap.size W W') : OfAt w0 W' v l := ⟨h.own.below hb, below_go h.bel hb⟩
theorem OfAt.grown {w0 W W1 : World} {v v1 : Value} {l l1 : List Mv} (h : OfAt w0 W v l) (hg : W.grownBy W1 v.ownBlock) (ho : OwnM W1 w0.heap.size v1 l1) : OfAt w0 W1 v1 l1 :=
  ⟨ho, h.bel.grown hg h.bel.size (fun k hk => (h.own.lt k hk).1)⟩
set_option maxRecDepth 100000 in
set_option maxHeartbeats 4000000 in
theorem rof_moves (s : ByteArray) (hs : isBoard s = true) (side : Int) (w : World) :
    Calls Tryz.prog 16 #[.string s, .int .i64 side] w fun e w' => ∃ v, e = .returned v ∧ OwnM w' w.heap.size v (gathM s side (fun _ => true) 90) ∧ Below w.heap.size w w' := by
  have HSD := Aside0.mk (fun a W => rside_c (cel s a) (cel_lt s a) W)
  have HFA := Aside0.mk (fun a b ha hb W => rfast_c s hs a b ha hb W)
  have HSZ := Aside0.mk (board_size hs)
  obtain ⟨i0, hi0, hx⟩ := Option.map_eq_some_iff.1 info_move
  simp only [Prod.mk.injEq] at hx
  have HZ := Aside0.mk (⟨hi0, hx⟩ : _ ∧ _)
  clear hx hi0 hs
  go_enter Tryz.func16, Tryz.ntmps16
  go_wp2_with fail
  go_loopg [5, 6, 7] 90 (fun gg s5 s6 _ wr => ∃ i : Nat, s6 = .int .i64 (i : Int) ∧ i + gg = 90 ∧ Aside0 (OfAt w wr s5 (gathM s side (fun _ => true) i)))
  case atStart => exact ⟨0, rfl, by omega, ⟨⟨own_nil _ _ _ _, Below.refl _ _⟩⟩⟩
  case round =>
    obtain ⟨i, rfl, hi, HG⟩ := hrel
    cases gk with
    | zero =>
      have hn : ¬ ((i : Int) < 90) := by omega
      have HI := Aside0.mk (show i = 90 by omega)
      clear hi
      go_wp2_with fail
      go_ret
      refine ⟨_, rfl, ?_, HG.out.bel⟩
      have := HG.out.own
      rw [HI.out] at this
      exact this
    | succ g2 =>
      have hn : ((i : Int) < 90) := by omega
      have hi90 : i < 90 := by omega
      have HI := Aside0.mk (show i + 1 + g2 = 90 by omega)
      have hsz : (i : Int) < s.size := by rw [HSZ.out]; omega
      have HSC := Aside0.mk (gathM_succ s side (fun _ => true) i)
      have HFR := Aside0.mk (fromM_all s side i)
      have HFI := Aside0.mk (fun b hb W => HFA.out i b hi90 hb W)
      have HGL := Aside0.mk (gathM_len s side (fun _ => true) i)
      have HSI := Aside0.mk (fun W => HSD.out i W)
      have HI90 := Aside0.mk hi90
      clear hi hi90
      generalize hsd : sideN (cel s i) = sd at *
      cases hq : (sd != side)
      case true =>
        have HE := Aside0.mk (show fromM s side (fun _ => true) i = [] by rw [HFR.out, if_neg (by simpa using hq)])
        clear hsd
        go_wp2_with (go_at_call 24; refine (HSI.out _).mono ?_; rintro e w1 ⟨rfl, rfl⟩)
        go_roundg g2
        case measure => omega
        case rel =>
          refine ⟨i + 1, by go_num, HI.out, ⟨?_⟩⟩
          rw [HSC.out, HE.out, List.append_nil]
          exact HG.out
      case false =>
      have HE := Aside0.mk (show fromM s side (fun _ => true) i = uptoM s i 90 by rw [HFR.out, if_pos (by simpa using hq)])
      clear hsd
      go_wp2_with (go_at_call 24; refine (HSI.out _).mono ?_; rintro e w1 ⟨rfl, rfl⟩)
      go_loopg [5, 7] 90 (fun gg s5 s7 wr => ∃ j : Nat, s7 = .int .i64 (j : Int) ∧ j + gg = 90 ∧ Aside0 (OfAt w wr s5 (gathM s side (fun _ => true) i ++ uptoM s i j)))
      case atStart => exact ⟨0, rfl, by omega, ⟨by rw [show uptoM s i 0 = [] from rfl, List.append_nil]; exact HG.out⟩⟩
      case round =>
      clear HG
      obtain ⟨j, rfl, hj, HG⟩ := hrel
      cases gk with
      | zero =>
        have hjn : ¬ ((j : Int) < 90) := by omega
        have HJ := Aside0.mk (show j = 90 by omega)
        clear hj
        go_wp2_with fail
        go_roundg g2
        case measure => omega
        case rel =>
          refine ⟨i + 1, by go_num, HI.out, ⟨?_⟩⟩
          have := HG.out
          rw [HJ.out, ← HE.out, ← HSC.out] at this
          exact this
      | succ g3 =>
        have hjn : ((j : Int) < 90) := by omega
        have HJ := Aside0.mk (show j + 1 + g3 = 90 by omega)
        have HFJ := Aside0.mk (fun W => HFI.out j (by omega) W)
        have HUS := Aside0.mk (uptoM_succ s i j)
        have HUL := Aside0.mk (uptoM_len s i j)
        clear hj
        cases hf : fastN (cel s) i j
        case false =>
          rw [hf] at HFJ HUS
          go_wp2_with (go_at_call 25; refine (HFJ.out _).mono ?_; rintro e w3 ⟨rfl, rfl⟩)
          go_roundg g3
          case measure => omega
          case rel =>
            refine ⟨j + 1, by go_num, HJ.out, ⟨?_⟩⟩
            rw [HUS.out, if_neg (by simp), List.append_nil]
            exact HG.out
        case true =>
          rw [hf] at HFJ HUS
          have HNW := Aside0.mk (show gathM s side (fun _ => true) i ++ uptoM s i (j + 1) = gathM s side (fun _ => true) i ++ uptoM s i j ++ [(i, j)] by rw [HUS.out, if_pos rfl, List.append_assoc])
          have HLN := Aside0.mk (show (gathM s side (fun _ => true) i ++ uptoM s i j).length ≤ 8190 by rw [List.length_append]; have := HGL.out; have := HUL.out; have := HI90.out; have := HJ.out; omega)
          generalize gathM s side (fun _ => true) i ++ uptoM s i j = L at *
          go_wp2_with (first | (go_at_call 25; refine (HFJ.out _).mono ?_; rintro e w3 ⟨rfl, rfl⟩) | (at_builtin; refine hold ?_))
          refine Hold.go ?_
          refine wpList_append_lies _ (by rfl) _ _ _ (by rfl) w.heap.size 30 i0 _ 2 16 Tryz.underlying26 HZ.out.1 HZ.out.2.1 HZ.out.2.2.1 HZ.out.2.2.2 rfl (by omega) _ L.length (flatM L) (by rfl) (HG.out.own.below (below_alloc (Below.refl _ _) _)) ⟨_, 0, none⟩ 1 1 (mvC (i, j)) (by rfl) (by rfl) (World.news_of_block (cs := #[.int .i64 (i : Int), .int .i64 (j : Int)]) (t := 30) (fr := (0, 0)) (news_own _ _)) (by simp [Value.oneCell', mvC]) (by omega) (by have := HLN.out; unfold maxLen; omega) (by have := HLN.out; omega) (by have := HG.out.bel.size; simp; omega) _ rfl ?_
          intro gg cap1 w1 hown1 hgrow hat hlt1
          have HO := Aside0.mk (show OfAt w w1 (.slice (some ⟨gg, 0, none⟩) (L.length + 1) cap1) (L ++ [(i, j)]) from (HG.out.below (below_alloc (Below.refl _ _) _)).grown hgrow (by unfold OwnM; rw [flatM_append, List.length_append]; exact hown1))
          clear hown1 hgrow hat hlt1 HG
          go_wp2_with fail
          go_roundg g3
          case measure => omega
          case rel => exact ⟨j + 1, by go_num, HJ.out, ⟨by rw [HNW.out]; exact HO.out⟩⟩
end Go.Proofs.YtcanbidenhcohaaGreat.K

/- Walks: the reference's Moves, Captures, Same; PseudoMoves. -/
namespace Go.Proofs.YtcanbidenhcohaaGreat.K
open Go.RowKit Go.Lib Go.Proofs.YtcanbidenhcohaaGreatW.PrintWords Go.Proofs.YtcanbidenhcohaaGreat.Sp
set_option linter.unusedVariables false
set_option linter.unusedSimpArgs false
attribute [local go_sem] cel_get   -- for this text's walks alone
set_option maxRecDepth 100000 in
set_option maxHeartbeats 2000000 in
theorem rmoves_c (p : Pos) (hmx : p.cells.size ≤ maxLen) (w : World) : Calls Tryz.prog 8 #[posV p] w fun e w' => ∃ v, e = .returned v ∧ OwnM w' w.heap.size v (gathP p (fun _ => true)) ∧ Below w.heap.size w w' := by
  have HCK := Aside0.mk (fun W => rcheck_c p hmx W)
  have hu := Tryz.underlying23
  have HB0 := Aside0.mk (BoxP.new w p)
  have HW0 := Aside0.mk (below_new (Below.refl w.heap.size w) (.cells #[.string p.cells, .int .i64 p.side, .int .i64 p.clock, .int .i64 p.full] 23))
  by_cases hck : checkP p = 0
  case neg =>
    rw [show gathP p (fun _ => true) = [] by unfold gathP; rw [if_neg hck]]
    have h2 : (checkP p != 0) = true := by simpa using hck
    clear hck hmx
    generalize checkP p = ck at HCK h2
    go_enter Tryz.func8, Tryz.ntmps8
    go_wp2_with (go_at_call 15; refine (HCK.out _).mono ?_; rintro e w1 ⟨rfl, hb⟩; have HW1 := Aside0.mk (below_go HW0.out hb); clear hb)
    go_ret
    exact ⟨_, rfl, own_nil _ _ _ _, HW1.out⟩
  have hbd := (argOk_yes (checkP_board hck)).1
  rw [show gathP p (fun _ => true) = gathM p.cells p.side (fun _ => true) 90 by unfold gathP; rw [if_pos hck]]
  have HOF := Aside0.mk (fun W => rof_moves p.cells hbd p.side W)
  generalize gathM p.cells p.side (fun _ => true) 90 = l at *
  rw [hck] at HCK
  clear hck hmx hbd
  go_enter Tryz.func8, Tryz.ntmps8
  go_wp2_with fail
  refine (HCK.out _).mono ?_
  rintro e w1 ⟨rfl, hb⟩
  have HB1 := Aside0.mk (HB0.out.below hb)
  have HW1 := Aside0.mk (below_go HW0.out hb)
  clear hb HB0 HW0
  obtain ⟨e0, e1, e2, e3⟩ := HB1.out
  go_wp2_with fail
  refine (HOF.out _).mono ?_
  rintro e w2 ⟨v, rfl, h2, hb⟩
  have HR := Aside0.mk (And.intro (h2.lower HW1.out.size) (below_go HW1.out hb))
  clear h2 hb HB1 HW1 e0 e1 e2 e3
  go_wp2_with fail
  go_ret
  exact ⟨_, rfl, HR.out.1, HR.out.2⟩
/-- What Captures' loop keeps. -/
structure CaAt (w0 W : World) (p : Pos) (v1 v : Value) (l k : List Mv) : Prop where
  box : BoxP W w0.heap.size p
  m1 : MvAt W w0.heap.size v1 l
  own : OwnM W w0.heap.size v k
  far : ∀ g, v.ownBlock = some g → g ≠ w0.heap.size ∧ (l = [] ∨ v1.ownBlock ≠ some g)
  bel : Below w0.heap.size w0 W
theorem CaAt.below {w0 W W' : World} {p : Pos} {v1 v : Value} {l k : List Mv} (h : CaAt w0 W p v1 v l k) (hb : Below W.heap.size W W') : CaAt w0 W' p v1 v l k :=
  ⟨h.box.below hb, h.m1.below hb, h.own.below hb, h.far, below_go h.bel hb⟩
theorem MvAt.other {W W' : World} {B : Nat} {v : Value} {l : List Mv} {row : Option Nat} (h : MvAt W B v l) (hg : W.grownBy W' row) (hne : ∀ g, row = some g → l = [] ∨ v.ownBlock ≠ some g) : MvAt W' B v l := by
  obtain ⟨A, cap, hv, h⟩ := h.out
  refine ⟨A, cap, hv, ?_⟩
  rcases h with h | ⟨g, hA, hB, hlt, hx⟩
  · exact .inl h
  · by_cases hl : l = []
    · exact .inl hl
    have hr : some g ≠ row := fun he => (hne g he.symm).elim hl (fun h => h (by rw [hv, hA]; rfl))
    exact .inr ⟨g, hA, hB, Nat.lt_of_lt_of_le hlt hg.size, fun i hi => ⟨(hg.cell_far ⟨g, i * 2, none⟩ hlt hr).trans (hx i hi).1, (hg.cell_far ⟨g, i * 2 + 1, none⟩ hlt hr).trans (hx i hi).2⟩⟩
theorem BoxP.other {W W' : World} {b : Nat} {p : Pos} {row : Option Nat} (h : BoxP W b p) (hg : W.grownBy W' row) (hne : some b ≠ row) : BoxP W' b p := by
  have hlt : b < W.heap.size := World.block_lt_of_cell? W ⟨b, 0, none⟩ h.c0
  exact ⟨(hg.cell_far ⟨b, 0, none⟩ hlt hne).trans h.c0, (hg.cell_far ⟨b, 1, none⟩ hlt hne).trans h.c1, (hg.cell_far ⟨b, 2, none⟩ hlt hne).trans h.c2, (hg.cell_far ⟨b, 3, none⟩ hlt hne).trans h.c3⟩
theorem CaAt.grown {w0 W W1 : World} {p : Pos} {v1 v : Value} {l k k1 : List Mv} {gg n cap : Nat} (h : CaAt w0 W p v1 v l k) (hg : W.grownBy W1 v.ownBlock) (ho : OwnM W1 w0.heap.size (.slice (some ⟨gg, 0, none⟩) n cap) k1) (hat : v.ownBlock = some gg ∨ gg = W.heap.size) : CaAt w0 W1 p v1 (.slice (some ⟨gg, 0, none⟩) n cap) l k1 := by
  have hlt : w0.heap.size < W.heap.size := World.block_lt_of_cell? W ⟨w0.heap.size, 0, none⟩ h.box.c0
  refine ⟨h.box.other hg (fun he => (h.far _ he.symm).1 rfl), h.m1.other hg (fun g he => (h.far g he).2), ho, ?_, h.bel.grown hg h.bel.size (fun k hk => (h.own.lt k hk).1)⟩
  intro g he
  simp only [Value.ownBlock, Option.some.injEq] at he
  subst he
  rcases hat with hat | hat
  · exact h.far _ hat
  · subst hat
    obtain ⟨A, c, rfl, hm⟩ := h.m1.out
    rcases hm with hm | ⟨g2, rfl, _, hlt2, _⟩
    · exact ⟨by omega, .inl hm⟩
    · refine ⟨by omega, .inr fun he => ?_⟩
      simp only [Value.ownBlock, Option.some.injEq] at he
      omega
set_option maxRecDepth 100000 in
set_option maxHeartbeats 4000000 in
theorem rcaptures_c (p : Pos) (hmx : p.cells.size ≤ maxLen) (w : World) : Calls Tryz.prog 10 #[posV p] w fun e w' => ∃ v, e = .returned v ∧ OwnM w' w.heap.size v (gathP p (fun x => x != 46)) ∧ Below w.heap.size w w' := by
  have HM := Aside0.mk (fun W => rmoves_c p hmx W)
  have HFIL := Aside0.mk (gath_cap p)
  have HMEM := Aside0.mk (fun m (h : m ∈ gathP p (fun _ => true)) => gath_mem h)
  have HLL := Aside0.mk (gath_len p (fun _ => true))
  have hu := Tryz.underlying23
  have hu2 := Tryz.underlying30
  obtain ⟨i0, hi0, hx⟩ := Option.map_eq_some_iff.1 info_move
  simp only [Prod.mk.injEq] at hx
  have HZ := Aside0.mk (⟨hi0, hx⟩ : _ ∧ _)
  generalize gathP p (fun _ => true) = l at *
  generalize gathP p (fun x => x != 46) = k at *
  have HB0 := Aside0.mk (BoxP.new w p)
  have HW0 := Aside0.mk (below_new (Below.refl w.heap.size w) (.cells #[.string p.cells, .int .i64 p.side, .int .i64 p.clock, .int .i64 p.full] 23))
  clear hx hi0 hmx
  go_enter Tryz.func10, Tryz.ntmps10
  go_wp2_with fail
  refine (HM.out _).mono ?_
  rintro e w1 ⟨v1, rfl, h1, hb⟩
  have HC := Aside0.mk (show CaAt w w1 p v1 (.slice none 0 0) l [] from ⟨HB0.out.below hb, h1.reads.lower HW0.out.size, own_nil _ _ _ _, fun g hg => by simp [Value.ownBlock] at hg, below_go HW0.out hb⟩)
  clear h1 hb HB0 HW0
  obtain ⟨A1, cap1, rfl⟩ := HC.out.m1.form
  go_wp2_with fail
  go_loopg [4, 5] l.length (fun gg s4 s5 wr => ∃ i : Nat, s5 = .int .i64 (i : Int) ∧ i + gg = l.length ∧ Aside0 (CaAt w wr p (.slice A1 l.length cap1) s4 l ((l.take i).filter (fun m => cel p.cells m.2 != 46))))
  case atStart => exact ⟨0, rfl, by omega, HC⟩
  case round =>
    clear HC
    obtain ⟨i, rfl, hi, HC⟩ := hrel
    cases gk with
    | zero =>
      have hn : ¬ ((i : Int) < (l.length : Int)) := by omega
      have HI := Aside0.mk (show i = l.length by omega)
      clear hi
      go_wp2_with fail
      go_ret
      refine ⟨_, rfl, ?_, HC.out.bel⟩
      have := HC.out.own
      rw [HI.out, List.take_length, ← HFIL.out] at this
      exact this
    | succ g =>
      have hn : (i : Int) < (l.length : Int) := by omega
      have hil : i < l.length := by omega
      have hib : (i : Int) ≤ 8100 := by have := HLL.out; omega
      have HI := Aside0.mk (show i + 1 + g = l.length by omega)
      have HTF := Aside0.mk (take_filter l (fun m => cel p.cells m.2 != 46) i hil)
      have HNI := Aside0.mk (show ((l.take i).filter (fun m => cel p.cells m.2 != 46)).length ≤ 8100 from Nat.le_trans (List.length_filter_le _ _) (Nat.le_trans (by rw [List.length_take]; omega) HLL.out))
      obtain ⟨hc0, _, hb90, _⟩ := HMEM.out _ (List.getElem_mem hil)
      have hs90 := board_size (argOk_yes (checkP_board hc0)).1
      obtain ⟨g1, cap1', hA1, _, hg1, hx1⟩ := HC.out.m1.at (fun h => by rw [h] at hil; simp at hil)
      simp only [Value.slice.injEq, true_and] at hA1
      obtain ⟨rfl, rfl⟩ := hA1
      obtain ⟨x0, x1⟩ := hx1 i hil
      clear hx1 hi hc0
      obtain ⟨e0, e1, e2, e3⟩ := HC.out.box
      clear e1 e2 e3
      generalize ((l.take i).filter (fun m => cel p.cells m.2 != 46)) = fl at *
      generalize l[i] = m at *
      obtain ⟨ma, mb⟩ := m
      simp only at hb90 x0 x1
      have hm2 : (mb : Int) < (p.cells.size : Int) := by omega
      have q := bne46 (cel p.cells mb)
      clear hs90 hb90 hil
      cases hc : (cel p.cells mb != 46)
      case false =>
        rw [hc] at q
        have HC0 := Aside0.mk hc
        clear hc
        go_wp2_with fail
        go_quiet (fail)
        go_wp2_with fail
        go_roundg g
        case measure => omega
        case rel =>
          refine ⟨i + 1, by go_num, by have := HI.out; omega, ⟨?_⟩⟩
          rw [HTF.out, if_neg (by show ¬ (cel p.cells mb != 46) = true; rw [HC0.out]; simp), List.append_nil]
          exact HC.out.below (pw_below_drewN (Below.refl _ _) _)
      case true =>
        rw [hc] at q
        have HC0 := Aside0.mk hc
        clear hc
        go_wp2_with fail
        go_quiet (fail)
        have HC2 := Aside0.mk (HC.out.below (pw_below_drewN (Below.refl _ _) nq))
        have y0 : (wr.drewN nq).cell? ⟨g1, i * 2, none⟩ = some (.int .i64 (ma : Int)) := x0
        have y1 : (wr.drewN nq).cell? ⟨g1, i * 2 + 1, none⟩ = some (.int .i64 (mb : Int)) := x1
        clear HC x0 x1 e0
        generalize wr.drewN nq = w2 at *
        go_wp2_with (at_builtin; refine hold ?_)
        refine Hold.go ?_
        refine wpList_append_lies _ (by rfl) _ _ _ (by rfl) w.heap.size 30 i0 _ 2 16 Tryz.underlying26 HZ.out.1 HZ.out.2.1 HZ.out.2.2.1 HZ.out.2.2.2 rfl (by omega) _ fl.length (flatM fl) (by rfl) (HC2.out.own.below (below_alloc (Below.refl _ _) _)) ⟨_, 0, none⟩ 1 1 (mvC (ma, mb)) (by rfl) (by rfl) (World.news_of_block (cs := #[.int .i64 (ma : Int), .int .i64 (mb : Int)]) (t := 30) (fr := (0, 0)) (news_own _ _)) (by simp [Value.oneCell', mvC]) (by omega) (by have := HNI.out; unfold maxLen; omega) (by have := HNI.out; omega) (by have := HC2.out.bel.size; simp; omega) _ rfl ?_
        intro gg cap2 w3 hown1 hgrow hat hlt1
        have HO := Aside0.mk (show CaAt w w3 p (.slice (some ⟨g1, 0, none⟩) l.length cap1) (.slice (some ⟨gg, 0, none⟩) (fl.length + 1) cap2) l (fl ++ [(ma, mb)]) from (HC2.out.below (below_alloc (Below.refl _ _) _)).grown hgrow (by unfold OwnM; rw [flatM_append, List.length_append]; exact hown1) hat)
        clear hown1 hgrow hat hlt1 HC2
        go_wp2_with fail
        go_roundg g
        case measure => omega
        case rel =>
          refine ⟨i + 1, by go_num, by have := HI.out; omega, ⟨?_⟩⟩
          rw [HTF.out, if_pos (show (cel p.cells mb != 46) = true from HC0.out)]
          exact HO.out
/-- Two rows of the same moves are told to be the same. -/
theorem rsame_c (l : List Mv) (hl : l.length ≤ 8100) (B1 B2 : Nat) (v1 v2 : Value) (w : World) (h1 : MvAt w B1 v1 l) (h2 : MvAt w B2 v2 l) : Calls Tryz.prog 6 #[v1, v2] w fun e w' => e = .returned (.bool true) ∧ Below w.heap.size w w' := by
  obtain ⟨A1, cap1, rfl⟩ := h1.form
  obtain ⟨A2, cap2, rfl⟩ := h2.form
  have HX := Aside0.mk (And.intro h1 h2)
  have HLL := Aside0.mk hl
  have hu2 := Tryz.underlying30
  clear h1 h2 hl
  go_enter Tryz.func6, Tryz.ntmps6
  go_wp2_with fail
  go_loopg [5] l.length (fun gg s5 wr => ∃ i : Nat, s5 = .int .i64 (i : Int) ∧ i + gg = l.length ∧ Aside0 (MvAt wr B1 (.slice A1 l.length cap1) l ∧ MvAt wr B2 (.slice A2 l.length cap2) l) ∧ Aside0 (Below w.heap.size w wr))
  case atStart => exact ⟨0, rfl, by omega, HX, ⟨Below.refl _ _⟩⟩
  case round =>
    clear HX
    obtain ⟨i, rfl, hi, HX, HB⟩ := hrel
    cases gk with
    | zero =>
      have hn : ¬ ((i : Int) < (l.length : Int)) := by omega
      clear hi
      go_wp2_with fail
      go_ret
      exact ⟨rfl, HB.out⟩
    | succ g =>
      have hn : (i : Int) < (l.length : Int) := by omega
      have hil : i < l.length := by omega
      have hib : (i : Int) ≤ 8100 := by have := HLL.out; omega
      have HI := Aside0.mk (show i + 1 + g = l.length by omega)
      obtain ⟨g1, cap1', hA1, _, hg1, hx1⟩ := HX.out.1.at (fun h => by rw [h] at hil; simp at hil)
      simp only [Value.slice.injEq, true_and] at hA1
      obtain ⟨rfl, rfl⟩ := hA1
      obtain ⟨g2, cap2', hA2, _, hg2, hx2⟩ := HX.out.2.at (fun h => by rw [h] at hil; simp at hil)
      simp only [Value.slice.injEq, true_and] at hA2
      obtain ⟨rfl, rfl⟩ := hA2
      obtain ⟨x0, x1⟩ := hx1 i hil
      obtain ⟨y0, y1⟩ := hx2 i hil
      clear hx1 hx2 hi
      generalize l[i] = m at *
      obtain ⟨ma, mb⟩ := m
      simp only at x0 x1 y0 y1
      clear hil
      go_wp2_with fail
      go_quiet (fail)
      go_wp2_with fail
      go_roundg g
      case measure => omega
      case rel => exact ⟨i + 1, by go_num, by have := HI.out; omega, ⟨HX.out.1.below (pw_below_drewN (Below.refl _ _) _), HX.out.2.below (pw_below_drewN (Below.refl _ _) _)⟩, ⟨pw_below_drewN HB.out _⟩⟩
end Go.Proofs.YtcanbidenhcohaaGreat.K

/- PseudoMoves: the walk. -/
namespace Go.Proofs.YtcanbidenhcohaaGreat.K
open Go.RowKit Go.Lib Go.Proofs.YtcanbidenhcohaaGreatW.PrintWords Go.Proofs.YtcanbidenhcohaaGreat.Sp
set_option linter.unusedVariables false
set_option linter.unusedSimpArgs false
structure PbAt (w0 W : World) (p : Pos) : Prop where
  box : BoxP W w0.heap.size p
  bel : Below w0.heap.size w0 W
theorem PbAt.below {w0 W W' : World} {p : Pos} (h : PbAt w0 W p) (hb : Below W.heap.size W W') : PbAt w0 W' p := ⟨h.box.below hb, below_go h.bel hb⟩
set_option maxRecDepth 100000 in
set_option maxHeartbeats 4000000 in
theorem movesLaw (w : World) (p : Pos) (hmx : p.cells.size ≤ maxLen) : Calls Tryz.prog 3 #[posV p] w fun e w' => e = .returned (.bool true) ∧ Below w.heap.size w w' := by
  have HLV := Aside0.mk (fun W => live_c W)
  have hu := Tryz.underlying23
  have HW0 := Aside0.mk (below_new (Below.refl w.heap.size w) (.cells #[.string p.cells, .int .i64 p.side, .int .i64 p.clock, .int .i64 p.full] 23))
  by_cases h200 : p.cells.size > 200
  · have h1 : (200 : Int) < (p.cells.size : Int) := by omega
    clear h200 hmx
    go_enter Tryz.func3, Tryz.ntmps3
    go_wp2_with (go_at_call 5; refine (HLV.out _).mono ?_; rintro e w1 ⟨rfl, hb⟩; have HW1 := Aside0.mk (below_go HW0.out hb); clear hb)
    go_ret
    exact ⟨rfl, HW1.out⟩
  have h1 : (p.cells.size : Int) ≤ 200 := by omega
  have HM := Aside0.mk (fun W => moves_c p W)
  have HC := Aside0.mk (fun W => captures_c p W)
  have HRM := Aside0.mk (fun W => rmoves_c p hmx W)
  have HRC := Aside0.mk (fun W => rcaptures_c p hmx W)
  have HLL := Aside0.mk (gath_len p (fun _ => true))
  have HLK := Aside0.mk (gath_len p (fun x => x != 46))
  clear h200 hmx
  generalize gathP p (fun _ => true) = l at *
  generalize gathP p (fun x => x != 46) = k at *
  have HB0 := Aside0.mk (BoxP.new w p)
  go_enter Tryz.func3, Tryz.ntmps3
  go_wp2_with fail
  have HP0 := Aside0.mk (show PbAt w _ p from ⟨HB0.out, HW0.out⟩)
  clear HB0 HW0
  generalize w.alloc (.cells #[.string p.cells, .int .i64 p.side, .int .i64 p.clock, .int .i64 p.full] 23) = W1 at *
  obtain ⟨e0, e1, e2, e3⟩ := HP0.out.box
  have HP1 := Aside0.mk (HP0.out.below (pw_below_drewN (Below.refl _ _) 1) : PbAt w W1.drew p)
  clear HP0
  go_region_held3 (fun W => W.cell? ⟨w.heap.size, 0, none⟩ = some (.string p.cells) ∧ W.cell? ⟨w.heap.size, 1, none⟩ = some (.int .i64 p.side) ∧ W.cell? ⟨w.heap.size, 2, none⟩ = some (.int .i64 p.clock) ∧ W.cell? ⟨w.heap.size, 3, none⟩ = some (.int .i64 p.full)) (go_keep)
    (first
      | (go_at_call 7; refine (HM.out _).mono ?_; rintro e w2 ⟨v1, rfl, h1, hb⟩; have HV1 := Aside0.mk h1.reads; have HP2 := Aside0.mk (HP1.out.below hb); clear HP1 h1 hb e0 e1 e2 e3; obtain ⟨e0, e1, e2, e3⟩ := HP2.out.box)
      | (go_at_call 8; refine (HRM.out _).mono ?_; rintro e w3 ⟨v2, rfl, h2, hb⟩; have HV2 := Aside0.mk h2.reads; have HV1' := Aside0.mk (HV1.out.below hb); have HP3 := Aside0.mk (HP2.out.below hb); clear HP2 HV1 h2 hb e0 e1 e2 e3; obtain ⟨e0, e1, e2, e3⟩ := HP3.out.box)
      | (go_at_call 6; refine (rsame_c l HLL.out _ _ _ _ _ HV1'.out HV2.out).mono ?_; rintro e w4 ⟨rfl, hb⟩; have HP4 := Aside0.mk (HP3.out.below hb); clear HP3 HV1' HV2 hb e0 e1 e2 e3; obtain ⟨e0, e1, e2, e3⟩ := HP4.out.box)
      | (go_at_call 9; refine (HC.out _).mono ?_; rintro e w5 ⟨v3, rfl, h1, hb⟩; have HV3 := Aside0.mk h1.reads; have HP5 := Aside0.mk (HP4.out.below hb); clear HP4 h1 hb e0 e1 e2 e3; obtain ⟨e0, e1, e2, e3⟩ := HP5.out.box)
      | (go_at_call 10; refine (HRC.out _).mono ?_; rintro e w6 ⟨v4, rfl, h2, hb⟩; have HV4 := Aside0.mk h2.reads; have HV3' := Aside0.mk (HV3.out.below hb); have HP6 := Aside0.mk (HP5.out.below hb); clear HP5 HV3 h2 hb e0 e1 e2 e3; obtain ⟨e0, e1, e2, e3⟩ := HP6.out.box)
      | (go_at_call 6; refine (rsame_c k HLK.out _ _ _ _ _ HV3'.out HV4.out).mono ?_; rintro e w7 ⟨rfl, hb⟩; have HP7 := Aside0.mk (HP6.out.below hb); clear HP6 HV3' HV4 hb e0 e1 e2 e3; obtain ⟨e0, e1, e2, e3⟩ := HP7.out.box)
      | (go_at_call 5; refine (HLV.out _).mono ?_; rintro e w8 ⟨rfl, hb⟩; have HP8 := Aside0.mk (HP7.out.below hb); clear HP7 hb e0 e1 e2 e3; obtain ⟨e0, e1, e2, e3⟩ := HP8.out.box))
  all_goals
    go_wp2_with fail
    go_ret
    exact ⟨rfl, HP8.out.bel⟩
end Go.Proofs.YtcanbidenhcohaaGreat.K

/- Flat types: what a value, and a slice's elements, of structs of numbers, bools and texts hold. No program in sight. -/
namespace Go.Proofs.YtcanbidenhcohaaGreat.P
open Go Go.ChangeShapes Go.WideShapes
/-- The kind of one cell. -/
inductive FK where
  | int (k : IntKind)
  | bool
  | str
def FK.has : FK → Value → Prop
  | .int k, c => ∃ n, c = .int k n ∧ (Lit.int k n).wf = true
  | .bool, c => ∃ b, c = .bool b
  | .str, c => ∃ s : ByteArray, c = .string s ∧ s.size ≤ maxLen
/-- The kinds of a struct's cells, given those of its fields. -/
def flatFs (P : Program) (g : TypeId → Option (List FK)) : List Field → Nat → Option (List FK)
  | [], _ => some []
  | f :: r, off => (g f.type).bind fun a => if f.offset = off ∧ P.cellsOf f.type = a.length then (flatFs P g r (off + a.length)).map (a ++ ·) else none
def flatT (P : Program) : Nat → TypeId → Option (List FK)
  | 0, _ => none
  | d + 1, t => match P.underlying t with
    | some .bool => some [.bool]
    | some (.int k) => some [.int k]
    | some .string => some [.str]
    | some (.struct fs) => (flatFs P (flatT P d) fs.toList 0).bind fun ks => if P.cellsOf t = ks.length then some ks else none
    | _ => none
section
variable {H : Type} {enc : TypeId × Value → H} {P : Program} {w : World} {base : Nat} {spare : Nat → Bool} {held : Bool}
theorem flatFs_cells {g : TypeId → Option (List FK)} {n : Nat} {cs : List Value}
    (ih : ∀ t ks, g t = some ks → ∀ cs x, DataW.trod enc P w base spare held n t cs = some x → cs.length = ks.length ∧ ∀ (i : Nat) (k : FK) (c : Value), ks[i]? = some k → cs[i]? = some c → k.has c) :
    ∀ (l : List Field) (off : Nat) (ks : List FK), flatFs P g l off = some ks → (∀ f ∈ l, ∃ y, DataW.trod enc P w base spare held n f.type ((cs.drop f.offset).take (P.cellsOf f.type)) = some y) →
      ∀ (i : Nat) (k : FK) (c : Value), ks[i]? = some k → cs[off + i]? = some c → k.has c
  | [], off, ks, h, _, i, k, c, hk, _ => by
    simp only [flatFs, Option.some.injEq] at h
    subst h
    simp at hk
  | f :: r, off, ks, h, hy, i, k, c, hk, hc => by
    simp only [flatFs, Option.bind_eq_some_iff] at h
    obtain ⟨a, ha, h⟩ := h
    split at h
    · rename_i hh
      obtain ⟨h1, h2⟩ := hh
      simp only [Option.map_eq_some_iff] at h
      obtain ⟨b, hb, rfl⟩ := h
      obtain ⟨y, hy0⟩ := hy f (by simp)
      obtain ⟨hl, hh⟩ := ih _ _ ha _ _ hy0
      by_cases hi : i < a.length
      · rw [List.getElem?_append_left hi] at hk
        refine hh i k c hk ?_
        rw [List.getElem?_take, List.getElem?_drop, h1, h2, if_pos hi]
        exact hc
      · rw [List.getElem?_append_right (by omega)] at hk
        refine flatFs_cells ih r (off + a.length) b hb (fun f hf => hy f (by simp [hf])) (i - a.length) k c hk ?_
        rw [show off + a.length + (i - a.length) = off + i by omega]
        exact hc
    · cases h
theorem flat_cells : ∀ (d : Nat) (t : TypeId) (ks : List FK), flatT P d t = some ks → ∀ (n : Nat) (cs : List Value) (x : DataW H × List MemPlace), DataW.trod enc P w base spare held n t cs = some x →
    cs.length = ks.length ∧ ∀ (i : Nat) (k : FK) (c : Value), ks[i]? = some k → cs[i]? = some c → k.has c
  | 0, _, _, h => by simp [flatT] at h
  | d + 1, t, ks, h => by
    intro n cs x hx
    unfold flatT at h
    split at h
    · rename_i ht
      obtain rfl := Option.some.inj h
      obtain ⟨b, rfl, rfl⟩ := DataW.trod_bool ht hx
      refine ⟨rfl, fun i k c hk hc => ?_⟩
      match i with
      | 0 => simp at hk hc; subst hk hc; exact ⟨b, rfl⟩
      | i + 1 => simp at hk
    · rename_i k ht
      obtain rfl := Option.some.inj h
      obtain ⟨m, rfl, rfl, hw⟩ := DataW.trod_int ht hx
      refine ⟨rfl, fun i k c hk hc => ?_⟩
      match i with
      | 0 => simp at hk hc; subst hk hc; exact ⟨m, rfl, hw⟩
      | i + 1 => simp at hk
    · rename_i ht
      obtain rfl := Option.some.inj h
      obtain ⟨s, rfl, rfl, hs⟩ := DataW.trod_string ht hx
      refine ⟨rfl, fun i k c hk hc => ?_⟩
      match i with
      | 0 => simp at hk hc; subst hk hc; exact ⟨s, rfl, hs⟩
      | i + 1 => simp at hk
    · rename_i fs ht
      simp only [Option.bind_eq_some_iff] at h
      obtain ⟨ks', hks, h⟩ := h
      split at h
      · rename_i hsz
        obtain rfl := Option.some.inj h
        obtain ⟨xs, m, rfl, rfl, hlen, hxl, hf⟩ := DataW.trod_struct ht hx
        refine ⟨hlen.trans hsz, ?_⟩
        have := flatFs_cells (enc := enc) (w := w) (base := base) (spare := spare) (held := held) (n := m) (cs := cs) (fun t ks hg => flat_cells d t ks hg m) fs.toList 0 ks' hks (by
          intro f hfm
          obtain ⟨i, hi⟩ := List.getElem?_of_mem hfm
          have hfi : fs[i]? = some f := by simpa using hi
          have h1 := hf i f hfi
          have hlt : i < xs.length := by
            rw [hxl]
            rcases Nat.lt_or_ge i fs.size with h | h
            · exact h
            · simp [Array.getElem?_eq_none h] at hfi
          exact ⟨xs[i], h1.trans (List.getElem?_eq_getElem hlt)⟩)
        intro i k c hk hc
        exact this i k c hk (by simpa using hc)
      · cases h
    · cases h
/-- A slice of flat elements: its cells. -/
theorem flat_slice {t e : TypeId} {d : Nat} {ks : List FK} {n : Nat} {a : Option Addr} {len cap : Nat} {x : DataW H × List MemPlace} (ht : P.underlying t = some (.slice e)) (he : flatT P d e = some ks) (hc : P.cellsOf e = ks.length)
    (h : DataW.trod enc P w base spare held n t [.slice a len cap] = some x) :
    (a = none ∧ len = 0 ∧ cap = 0) ∨ ∃ ad, a = some ad ∧ len ≤ cap ∧ cap ≤ maxLen ∧ ∀ i, i < len → ∀ (j : Nat) (k : FK), ks[j]? = some k → ∃ c, w.cell? (ad.add (i * ks.length + j)) = some c ∧ k.has c := by
  rcases Deep.open_slice ht h with ⟨h0, _⟩ | ⟨ad, len', cap', m, n', D, Pl, h0, hb, hl, hm, hmm, _, hx⟩
  · simp at h0; exact .inl h0
  · simp only [List.cons.injEq, Value.slice.injEq, and_true] at h0
    obtain ⟨rfl, rfl, rfl⟩ := h0
    refine .inr ⟨ad, rfl, hl, hm, fun i hi j k hj => ?_⟩
    have hlm : len ≤ m := by rw [hmm]; split <;> omega
    obtain ⟨cs, h1, h2⟩ := hx i (by omega)
    obtain ⟨_, hlen, hcell⟩ := World.cells?_some h1
    obtain ⟨hcl, hch⟩ := flat_cells d e ks he _ _ _ h2
    have hjk : j < ks.length := by
      rcases Nat.lt_or_ge j ks.length with h | h
      · exact h
      · simp [List.getElem?_eq_none h] at hj
    have hjc : j < cs.length := by omega
    have := hcell j (by omega)
    rw [Deep.add_add, hc, List.getElem?_eq_getElem hjc] at this
    exact ⟨_, this, hch j k _ hj (List.getElem?_eq_getElem hjc)⟩
end
theorem list_cons {α : Type} {l : List α} {n : Nat} (h : l.length = n + 1) : ∃ x r, l = x :: r ∧ r.length = n := by
  cases l with
  | nil => simp at h
  | cons x r => exact ⟨x, r, rfl, by simpa using h⟩
theorem list_nil {α : Type} {l : List α} (h : l.length = 0) : l = [] := List.length_eq_zero_iff.1 h
theorem wf_u64 {n : Int} (h : (Lit.int .u64 n).wf = true) : 0 ≤ n := by
  simp only [Lit.wf, Bool.and_eq_true, decide_eq_true_eq] at h
  have h1 := h.1
  simp [IntKind.min, IntKind.signed] at h1
  exact h1
theorem wf_i64 {n : Int} (h : (Lit.int .i64 n).wf = true) : -9223372036854775808 ≤ n ∧ n ≤ 9223372036854775807 := by
  simp only [Lit.wf, Bool.and_eq_true, decide_eq_true_eq] at h
  obtain ⟨h1, h2⟩ := h
  simp [IntKind.min, IntKind.max, IntKind.signed, IntKind.bits] at h1 h2
  exact ⟨h1, h2⟩
theorem wf_u8 {n : Int} (h : (Lit.int .u8 n).wf = true) : 0 ≤ n ∧ n ≤ 255 := by
  simp only [Lit.wf, Bool.and_eq_true, decide_eq_true_eq] at h
  obtain ⟨h1, h2⟩ := h
  simp [IntKind.min, IntKind.max, IntKind.signed, IntKind.bits] at h1 h2
  exact ⟨h1, h2⟩
end Go.Proofs.YtcanbidenhcohaaGreat.P
