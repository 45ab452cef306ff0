/- Walks and plain laws that several statements lean on, joined: no statement of the seat is proved here. -/
import Derived.Deep.AppendLies
import Derived.Deep.LoopGhost
import Derived.WalkKit
import Derived.Handy
import Derived.Deep.RegionHeld3
import Derived.Deep.Cut
import Derived.ProofKit
import Derived.Deep.Slices
import Derived.WideShapes
import Derived.ChangeArms
import Derived.DataReads
import Derived.Test.YtcanbidenhcohaaB1
import Derived.Test.YtcanbidenhcohaaB6

/- Walks: pseudo.gather, Moves, Captures. -/
namespace Go.Proofs.Ytcanbidenhcohaa.K
open Go.RowKit Go.Lib Go.Proofs.YtcanbidenhcohaaW.PrintWords Go.Proofs.Ytcanbidenhcohaa.Sp
set_option linter.unusedVariables false
set_option linter.unusedSimpArgs false
attribute [local go_sem] cel_get   -- for this text's walks alone
abbrev Mv := Nat × Nat
def mvC (m : Mv) : List Value := [.int .i64 (m.1 : Int), .int .i64 (m.2 : Int)]
def flatM (l : List Mv) : List Value := l.flatMap mvC
theorem flatM_len (l : List Mv) : (flatM l).length = l.length * 2 := by
  induction l with
  | nil => rfl
  | cons x r ih => simp only [flatM, List.flatMap_cons, List.length_append, List.length_cons] at *; simp [mvC, ih]; omega
theorem flatM_append (l : List Mv) (x : Mv) : flatM (l ++ [x]) = flatM l ++ mvC x := by simp [flatM]
theorem flatM_get (l : List Mv) (i j : Nat) (hi : i < l.length) (hj : j < 2) : (flatM l)[i * 2 + j]? = (mvC l[i])[j]? := by
  induction l generalizing i with
  | nil => simp at hi
  | cons x r ih =>
    have hl : (mvC x).length = 2 := rfl
    cases i with
    | zero =>
      simp only [flatM, List.flatMap_cons]
      rw [List.getElem?_append_left (by rw [hl]; omega)]
      simp
    | succ i =>
      simp only [flatM, List.flatMap_cons]
      rw [List.getElem?_append_right (by rw [hl]; omega), hl, show (i + 1) * 2 + j - 2 = i * 2 + j by omega]
      exact ih i (by simpa using hi)
/-- A row of moves of the call's own, from block B on. -/
def OwnM (W : World) (B : Nat) (v : Value) (l : List Mv) : Prop := W.ownsRow B 42 2 v l.length (flatM l)
theorem OwnM.below {W W' : World} {B : Nat} {v : Value} {l : List Mv} (h : OwnM W B v l) (hb : Below W.heap.size W W') : OwnM W' B v l := pw_own_below h hb
theorem OwnM.lower {W : World} {B B' : Nat} {v : Value} {l : List Mv} (h : OwnM W B v l) (hb : B' ≤ B) : OwnM W B' v l := by
  obtain ⟨h1, h2 | ⟨g, cap, cur, h2, h3, h4⟩⟩ := h
  · exact ⟨h1, .inl h2⟩
  · exact ⟨h1, .inr ⟨g, cap, cur, h2, Nat.le_trans hb h3, h4⟩⟩
/-- The moves from a square. -/
def fromM (s : ByteArray) (side : Int) (q : Nat → Bool) (a : Nat) : List Mv := if sideN (cel s a) = side then ((allN (cel s) a).filter (fun b => q (cel s b))).map (fun b => (a, b)) else []
def gathM (s : ByteArray) (side : Int) (q : Nat → Bool) (n : Nat) : List Mv := (List.range n).flatMap (fromM s side q)
theorem gathM_succ (s : ByteArray) (side : Int) (q : Nat → Bool) (n : Nat) : gathM s side q (n + 1) = gathM s side q n ++ fromM s side q n := by
  unfold gathM; rw [List.range_succ, List.flatMap_append]; simp
theorem allN_len (c : Nat → Nat) (a : Nat) : (allN c a).length ≤ 90 := by
  unfold allN; exact Nat.le_trans (List.length_filter_le _ _) (by simp)
theorem allN_lt (c : Nat → Nat) (a : Nat) : ∀ b ∈ allN c a, b < 90 := by
  intro b hb; unfold allN at hb; exact List.mem_range.1 (List.mem_filter.1 hb).1
theorem fromM_len (s : ByteArray) (side : Int) (q : Nat → Bool) (a : Nat) : (fromM s side q a).length ≤ 90 := by
  unfold fromM; split
  · rw [List.length_map]; exact Nat.le_trans (List.length_filter_le _ _) (allN_len _ _)
  · simp
theorem gathM_len (s : ByteArray) (side : Int) (q : Nat → Bool) (n : Nat) : (gathM s side q n).length ≤ 90 * n := by
  induction n with
  | zero => simp [gathM]
  | succ n ih => rw [gathM_succ, List.length_append]; have := fromM_len s side q n; omega
/-- The moves of a position to squares where something is so. -/
def gathP (p : Pos) (q : Nat → Bool) : List Mv := if checkP p = 0 then gathM p.cells p.side q 90 else []
/-- The first j of the moves from a square. -/
def partM (s : ByteArray) (q : Nat → Bool) (a j : Nat) : List Mv := (((allN (cel s) a).take j).filter (fun b => q (cel s b))).map (fun b => (a, b))
theorem partM_succ (s : ByteArray) (q : Nat → Bool) (a j : Nat) (h : j < (allN (cel s) a).length) : partM s q a (j + 1) = partM s q a j ++ (if q (cel s (allN (cel s) a)[j]) = true then [(a, (allN (cel s) a)[j])] else []) := by
  unfold partM
  rw [List.take_succ_eq_append_getElem h, List.filter_append, List.map_append]
  congr 1
  split <;> simp_all
theorem partM_len (s : ByteArray) (q : Nat → Bool) (a j : Nat) : (partM s q a j).length ≤ 90 := by
  unfold partM
  rw [List.length_map]
  exact Nat.le_trans (List.length_filter_le _ _) (by rw [List.length_take]; have := allN_len (cel s) a; omega)
theorem info_move : (Try.prog.info? 42).map (fun i => (i.zero, i.size, i.bytes)) = some (some (.agg #[.int .i64 0, .int .i64 0]), 2, 16) := by kernel_rfl
/-- What gather's loops keep. -/
structure GathAt (w0 W : World) (p : Pos) (v : Value) (l : List Mv) : Prop where
  c0 : W.cell? ⟨w0.heap.size, 0, none⟩ = some (.string p.cells)
  c1 : W.cell? ⟨w0.heap.size, 1, none⟩ = some (.int .i64 p.side)
  own : OwnM W (w0.heap.size + 1) v l
  bel : Below w0.heap.size w0 W
  lt : w0.heap.size < W.heap.size
theorem GathAt.below {w0 W W' : World} {p : Pos} {v : Value} {l : List Mv} (h : GathAt w0 W p v l) (hb : Below W.heap.size W W') : GathAt w0 W' p v l :=
  ⟨(hb.cell (p := ⟨w0.heap.size, 0, none⟩) h.lt).trans h.c0, (hb.cell (p := ⟨w0.heap.size, 1, none⟩) h.lt).trans h.c1, h.own.below hb, h.bel.trans (hb.mono h.bel.size), Nat.lt_of_lt_of_le h.lt hb.size⟩
/-- Behind an append. -/
theorem GathAt.grown {w0 W W1 : World} {p : Pos} {v v1 : Value} {l l1 : List Mv} (h : GathAt w0 W p v l) (hg : W.grownBy W1 v.ownBlock) (ho : OwnM W1 (w0.heap.size + 1) v1 l1) : GathAt w0 W1 p v1 l1 := by
  have hne : some w0.heap.size ≠ v.ownBlock := fun he => by have := own_base h.own _ he.symm; omega
  exact ⟨(hg.cell_far ⟨w0.heap.size, 0, none⟩ h.lt hne).trans h.c0, (hg.cell_far ⟨w0.heap.size, 1, none⟩ h.lt hne).trans h.c1, ho, h.bel.grown hg (Nat.le_of_lt h.lt) (fun k hk => by have := own_base h.own k hk; omega), Nat.lt_of_lt_of_le h.lt hg.size⟩
theorem below_cell {W w1 : World} (hb : Below W.heap.size W w1) (g o : Nat) (v : Value) (h : W.cell? ⟨g, o, none⟩ = some v) : w1.cell? ⟨g, o, none⟩ = some v :=
  (hb.cell (p := ⟨g, o, none⟩) (World.block_lt_of_cell? W _ h)).trans h
def Hold (P : Prop) : Prop := P
theorem hold {P : Prop} (h : Hold P) : P := h
theorem Hold.go {P : Prop} (h : P) : Hold P := h
theorem news_own (w : World) (B : Obj) : (w.alloc B).heap[w.heap.size]? = some B := by show (w.heap.push B)[w.heap.size]? = _; simp
/-- All's row beside the moves' row. -/
structure AllAt (W : World) (A : Option Addr) (l : List Nat) (s : Value) : Prop where mk ::
  out : l = [] ∨ ∃ g, A = some ⟨g, 0, none⟩ ∧ g < W.heap.size ∧ s.ownBlock ≠ some g ∧ ∀ i (h : i < l.length), W.cell? ⟨g, i, none⟩ = some (.int .i64 (l[i] : Int))
theorem AllAt.at {W : World} {A : Option Addr} {l : List Nat} {s : Value} (h : AllAt W A l s) {j : Nat} (hj : j < l.length) : ∃ g, A = some ⟨g, 0, none⟩ ∧ g < W.heap.size ∧ s.ownBlock ≠ some g ∧ ∀ i (h : i < l.length), W.cell? ⟨g, i, none⟩ = some (.int .i64 (l[i] : Int)) := by
  rcases h.out with h | h
  · subst h; simp at hj
  · exact h
theorem AllAt.below {W W' : World} {A : Option Addr} {l : List Nat} {s : Value} (h : AllAt W A l s) (hb : Below W.heap.size W W') : AllAt W' A l s := by
  rcases h.out with h | ⟨g, hA, h1, h2, h3⟩
  · exact ⟨.inl h⟩
  · exact ⟨.inr ⟨g, hA, Nat.lt_of_lt_of_le h1 hb.size, h2, fun i hi => (hb.cell (p := ⟨g, i, none⟩) h1).trans (h3 i hi)⟩⟩
set_option maxRecDepth 100000 in
set_option maxHeartbeats 4000000 in
theorem gather_c (p : Pos) (g : Nat) (q : Nat → Bool) (hq : ∀ (W : World) (x : Nat), x < 256 → Calls Try.prog g #[.int .u8 (x : Int)] W fun e w' => e = .returned (.bool (q x)) ∧ w' = W)
    (eg : ∀ args w, (callFunc g args).run Try.prog w = .ok (.enter g args) w) (w : World) :
    Calls Try.prog 63 #[posV p, .func (.func g) #[] #[]] w fun e w' => ∃ v, e = .returned v ∧ OwnM w' w.heap.size v (gathP p q) ∧ Below w.heap.size w w' := by
  have HCK := Aside0.mk (fun W => check_c p W)
  have hu := Try.underlying38
  by_cases hck : checkP p = 0
  case neg =>
    rw [show gathP p q = [] by unfold gathP; rw [if_neg hck]]
    have h1 : (checkP p == 0) = false := by simpa using hck
    have h2 : (checkP p != 0) = true := by simpa using hck
    clear hck
    generalize checkP p = ck at HCK h1 h2
    go_enter Try.func63, Try.ntmps63
    go_wp2_with fail
    go_step3
    go_wp2_with fail
    refine (HCK.out _).mono ?_
    rintro e w1 ⟨rfl, hb⟩
    have HB := Aside0.mk ((below_alloc (Below.refl w.heap.size w) _).trans (hb.mono (by simp)))
    clear hb
    go_wp2_with fail
    rw [Exit.noGoto_ret]
    go_ret
    exact ⟨_, rfl, own_nil _ _ _ _, HB.out⟩
  rw [hck] at HCK
  have HGP := Aside0.mk (show gathP p q = gathM p.cells p.side q 90 by unfold gathP; rw [if_pos hck])
  have hbd : isBoard p.cells = true := by
    unfold checkP at hck
    cases ha : argOk p
    · rw [ha] at hck; simp at hck
    · exact (argOk_yes ha).1
  have HBD := Aside0.mk hbd
  have HSZ := Aside0.mk (board_size hbd)
  clear hck hbd
  go_enter Try.func63, Try.ntmps63
  go_wp2_with fail
  go_step3
  go_wp2_with fail
  refine (HCK.out _).mono ?_
  rintro e w1 ⟨rfl, hb⟩
  have HG0 : Aside0 (GathAt w w1 p (.slice none 0 0) []) := ⟨⟨(hb.cell (p := ⟨w.heap.size, 0, none⟩) (by simp)).trans (by simp), (hb.cell (p := ⟨w.heap.size, 1, none⟩) (by simp)).trans (by simp), own_nil _ _ _ _, (below_alloc (Below.refl w.heap.size w) _).trans (hb.mono (by simp)), by have := hb.size; simp at this; omega⟩⟩
  clear hb HCK
  go_wp2_with fail
  go_step3
  go_wp2_with fail
  obtain ⟨i0, hi0, hx⟩ := Option.map_eq_some_iff.1 info_move
  simp only [Prod.mk.injEq] at hx
  have HZ := Aside0.mk (⟨hi0, hx⟩ : _ ∧ _)
  clear hx hi0
  have HALL := Aside0.mk (fun (a : Nat) (W : World) => all_c p.cells a W)
  have HSID := Aside0.mk (fun (a : Nat) W => side_c (cel p.cells a) W)
  go_loopg [5, 12] 90 (fun gg s5 s12 wr => ∃ i : Nat, s12 = .int .i64 i ∧ i + gg = 90 ∧ Aside0 (GathAt w wr p s5 (gathM p.cells p.side q i)))
  case atStart => exact ⟨0, rfl, by omega, HG0⟩
  case round =>
    obtain ⟨i, rfl, hi, HG⟩ := hrel
    cases gk with
    | zero =>
      have hn : ¬ ((i : Int) < 90) := by omega
      have HI := Aside0.mk (show i = 90 by omega)
      clear hi
      go_wp2_with fail
      go_ret
      refine ⟨_, rfl, ?_, HG.out.bel⟩
      rw [HGP.out, ← HI.out]
      exact HG.out.own.lower (by omega)
    | succ g2 =>
      have hn : ((i : Int) < 90) := by omega
      have HI := Aside0.mk (show i + 1 + g2 = 90 by omega)
      have HC0 := Aside0.mk HG.out.c0
      have HC1 := Aside0.mk HG.out.c1
      have hcs : cel p.cells i < 256 := cel_lt _ _
      have hsz : (i : Int) < p.cells.size := by rw [HSZ.out]; omega
      clear hi
      go_wp2_with fail
      have c0 := HC0.out
      have c1 := HC1.out
      go_quiet (first | (go_at_call 22; exact Calls.quiet_of_same (HSID.out _ hcs _)))
      have HG2 := Aside0.mk (HG.out.below (pw_below_drewN (Below.refl _ _) nq))
      have HG := HG2
      clear HG2 HC0 HC1 c0 c1
      generalize wr.drewN nq = wr at *
      cases hsd : (sideN (cel p.cells i) != p.side)
      case true =>
        have HF := Aside0.mk (show fromM p.cells p.side q i = [] by unfold fromM; rw [if_neg (by simpa using hsd)])
        go_wp2_with fail
        go_roundg g2
        case measure => omega
        case rel => 
          refine ⟨i + 1, rfl, HI.out, Aside0.mk ?_⟩
          rw [gathM_succ, HF.out, List.append_nil]
          exact HG.out
      case false =>
      have HF := Aside0.mk (show fromM p.cells p.side q i = partM p.cells q i (allN (cel p.cells) i).length by unfold fromM partM; rw [if_pos (by simpa using hsd), List.take_length])
      have c0 := HG.out.c0
      go_wp2_with fail
      refine (HALL.out i _).mono ?_
      rintro e w2 ⟨v, rfl, HI2, hb⟩
      have ha : allS p.cells (i : Int) = allN (cel p.cells) i := by unfold allS; rw [if_pos ⟨HBD.out, by omega, by omega⟩]; rfl
      rw [ha] at HI2
      obtain ⟨A, cap, rfl, hcap, hA⟩ := HI2.out
      have HG1 := Aside0.mk (HG.out.below hb)
      have HAL : Aside0 (AllAt w2 A (allN (cel p.cells) i) u5) := by
        rcases hA with hA | ⟨g', rfl, h1, h2, h3⟩
        · exact Aside0.mk ⟨.inl hA⟩
        · exact Aside0.mk ⟨.inr ⟨g', rfl, h2, fun he => by have := (HG.out.own.lt g' he).2; omega, h3⟩⟩
      clear hA HI2 c0 ha
      have HLL := Aside0.mk (allN_lt (cel p.cells) i)
      have HL90 := Aside0.mk (allN_len (cel p.cells) i)
      generalize hl : allN (cel p.cells) i = l at *
      have hm : (l.length : Int) ≤ 90 := by have := HL90.out; omega
      go_wp2_with fail
      go_loopg [28, 5] l.length (fun gg s28 s5 wr => ∃ j : Nat, s28 = .int .i64 j ∧ j + gg = l.length ∧ Aside0 (GathAt w wr p s5 (gathM p.cells p.side q i ++ partM p.cells q i j)) ∧ Aside0 (AllAt wr A l s5))
      case atStart => exact ⟨0, rfl, by omega, Aside0.mk (by rw [show partM p.cells q i 0 = [] by simp [partM], List.append_nil]; exact HG1.out), HAL⟩
      case round =>
      clear HG HG1 HAL
      obtain ⟨j, rfl, hj, HG, HAL⟩ := hrel
      cases gk with
      | zero =>
        have hjn : ¬ ((j : Int) < (l.length : Int)) := by omega
        have HJ := Aside0.mk (show j = l.length by omega)
        clear hj
        go_wp2_with fail
        go_roundg g2
        case measure => omega
        case rel =>
          refine ⟨i + 1, rfl, HI.out, Aside0.mk ?_⟩
          rw [gathM_succ, HF.out, ← HJ.out]
          exact HG.out
      | succ g3 =>
        have hjn : ((j : Int) < (l.length : Int)) := by omega
        have hjl : j < l.length := by omega
        have HJ := Aside0.mk (show j + 1 + g3 = l.length by omega)
        obtain ⟨g', rfl, h1, h2, h3⟩ := HAL.out.at hjl
        have cj := h3 j hjl
        have HXL := Aside0.mk (HLL.out _ (List.getElem_mem hjl))
        have HPS := Aside0.mk (partM_succ p.cells q i j (by rw [hl]; exact hjl))
        simp only [hl] at HPS
        generalize l[j] = x at *
        have c0 := HG.out.c0
        have hcs2 : cel p.cells x < 256 := cel_lt _ _
        have hsz2 : (x : Int) < p.cells.size := by rw [HSZ.out]; have := HXL.out; omega
        clear hj h2 h3
        go_wp2_with fail
        refine (hq _ _ hcs2).mono ?_
        rintro e w3 ⟨rfl, rfl⟩
        cases hqx : q (cel p.cells x)
        case false =>
          have HN := Aside0.mk (show partM p.cells q i (j + 1) = partM p.cells q i j by rw [HPS.out, if_neg (by simp [hqx]), List.append_nil])
          go_wp2_with fail
          go_roundg g3
          case measure => omega
          case rel =>
            refine ⟨j + 1, rfl, HJ.out, Aside0.mk ?_, HAL⟩
            rw [HN.out]
            exact HG.out
        case true =>
          have HN := Aside0.mk (show partM p.cells q i (j + 1) = partM p.cells q i j ++ [(i, x)] by rw [HPS.out, if_pos hqx])
          have HLN := Aside0.mk (show (gathM p.cells p.side q i ++ partM p.cells q i j).length ≤ 90 * i + 90 by rw [List.length_append]; have := gathM_len p.cells p.side q i; have := partM_len p.cells q i j; omega)
          have HGL := Aside0.mk (show gathM p.cells p.side q i ++ partM p.cells q i (j + 1) = gathM p.cells p.side q i ++ partM p.cells q i j ++ [(i, x)] by rw [HN.out, List.append_assoc])
          generalize gathM p.cells p.side q i ++ partM p.cells q i j = L at *
          have HI90 := Aside0.mk (show i < 90 by omega)
          go_wp2_with (first | (at_builtin; refine hold ?_))
          refine Hold.go ?_
          refine wpList_append_lies _ (by rfl) _ _ _ (by rfl) (w.heap.size + 1) 42 i0 _ 2 16 Try.underlying39 HZ.out.1 HZ.out.2.1 HZ.out.2.2.1 HZ.out.2.2.2 rfl (by omega) _ L.length (flatM L) (by rfl) (HG.out.own.below (below_alloc (Below.refl _ _) _)) ⟨w3.heap.size, 0, none⟩ 1 1 (mvC (i, x)) (by rfl) (by rfl) (World.news_of_block (cs := #[.int .i64 (i : Int), .int .i64 (x : Int)]) (t := 42) (fr := (0, 0)) (news_own _ _)) (by simp [Value.oneCell', mvC]) (by omega) (by have := HLN.out; have := HI90.out; unfold maxLen; omega) (by have := HLN.out; have := HI90.out; omega) (by have := HG.out.lt; simp; omega) _ rfl ?_
          intro gg cap1 w1 hown1 hgrow hat hlt1
          have HO1 := Aside0.mk hown1
          have HGR := Aside0.mk hgrow
          have HAT := Aside0.mk hat
          clear hown1 hgrow hat
          go_wp2_with fail
          go_roundg g3
          case measure => omega
          case rel =>
            refine ⟨j + 1, rfl, HJ.out, Aside0.mk ?_, Aside0.mk ⟨.inr ?_⟩⟩
            · rw [HGL.out]
              refine (HG.out.below (below_alloc (Below.refl _ _) _)).grown HGR.out ?_
              have ho := HO1.out
              unfold OwnM
              rw [flatM_append, List.length_append]
              exact ho
            · obtain ⟨g2', hg2, k1, k2, k3⟩ := HAL.out.at hjl
              simp only [Option.some.injEq, Addr.mk.injEq, and_true] at hg2
              subst hg2
              have hsz := HGR.out.size
              have hk : g' < (w3.alloc (Obj.cells #[Value.int IntKind.i64 i, Value.int IntKind.i64 x] 42)).heap.size := by simp; omega
              refine ⟨g', rfl, by omega, fun he => ?_, fun y hy => (HGR.out.cell_far ⟨g', y, none⟩ hk (Ne.symm k2)).trans ?_⟩
              · simp only [Value.ownBlock, Option.some.injEq] at he
                rcases HAT.out with h | h
                · rw [h, he] at k2; exact k2 rfl
                · omega
              · exact below_cell (below_alloc (Below.refl _ _) _) _ _ _ (k3 y hy)
end Go.Proofs.Ytcanbidenhcohaa.K

/- Walks: pseudo.Moves, Captures. -/
namespace Go.Proofs.Ytcanbidenhcohaa.K
open Go.RowKit Go.Lib Go.Proofs.YtcanbidenhcohaaW.PrintWords Go.Proofs.Ytcanbidenhcohaa.Sp
set_option linter.unusedVariables false
set_option linter.unusedSimpArgs false
theorem moves1_c (W : World) (x : Nat) (hx : x < 256) : Calls Try.prog 64 #[.int .u8 (x : Int)] W fun e w' => e = .returned (.bool ((fun _ => true) x)) ∧ w' = W := by
  go_enter Try.func64, Try.ntmps64
  go_wp2_with fail
  go_ret
  exact ⟨rfl, rfl⟩
theorem captures1_c (W : World) (x : Nat) (hx : x < 256) : Calls Try.prog 68 #[.int .u8 (x : Int)] W fun e w' => e = .returned (.bool ((fun x => x != 46) x)) ∧ w' = W := by
  go_enter Try.func68, Try.ntmps68
  go_wp2_with fail
  go_ret
  refine ⟨ret_bool ?_, rfl⟩
  rw [Bool.eq_iff_iff]; simp; try omega
set_option maxRecDepth 100000 in
set_option maxHeartbeats 1000000 in
theorem moves_c (p : Pos) (w : World) : Calls Try.prog 31 #[posV p] w fun e w' => ∃ v, e = .returned v ∧ OwnM w' w.heap.size v (gathP p (fun _ => true)) ∧ Below w.heap.size w w' := by
  have HG := Aside0.mk (fun W => gather_c p 64 (fun _ => true) moves1_c (fun _ _ => by rfl) W)
  have hu := Try.underlying38
  go_enter Try.func31, Try.ntmps31
  go_wp2_with fail
  refine (HG.out _).mono ?_
  rintro e w1 ⟨v, rfl, h1, h2⟩
  have HR : Aside0 (OwnM w1 w.heap.size v (gathP p (fun _ => true)) ∧ Below w.heap.size w w1) := ⟨h1.lower (by simp), (below_alloc (Below.refl w.heap.size w) _).trans (h2.mono (by simp))⟩
  clear h1 h2
  go_wp2_with fail
  go_ret
  exact ⟨v, rfl, HR.out.1, HR.out.2⟩
set_option maxRecDepth 100000 in
set_option maxHeartbeats 1000000 in
theorem captures_c (p : Pos) (w : World) : Calls Try.prog 40 #[posV p] w fun e w' => ∃ v, e = .returned v ∧ OwnM w' w.heap.size v (gathP p (fun x => x != 46)) ∧ Below w.heap.size w w' := by
  have HG := Aside0.mk (fun W => gather_c p 68 (fun x => x != 46) captures1_c (fun _ _ => by rfl) W)
  have hu := Try.underlying38
  go_enter Try.func40, Try.ntmps40
  go_wp2_with fail
  refine (HG.out _).mono ?_
  rintro e w1 ⟨v, rfl, h1, h2⟩
  have HR : Aside0 (OwnM w1 w.heap.size v (gathP p (fun x => x != 46)) ∧ Below w.heap.size w w1) := ⟨h1.lower (by simp), (below_alloc (Below.refl w.heap.size w) _).trans (h2.mono (by simp))⟩
  clear h1 h2
  go_wp2_with fail
  go_ret
  exact ⟨v, rfl, HR.out.1, HR.out.2⟩
end Go.Proofs.Ytcanbidenhcohaa.K

/- Walks: slices.Contains over numbers of one's own. -/
namespace Go.Proofs.Ytcanbidenhcohaa.K
open Go.RowKit Go.Lib Go.Proofs.YtcanbidenhcohaaW.PrintWords Go.Proofs.Ytcanbidenhcohaa.Sp
set_option linter.unusedVariables false
set_option linter.unusedSimpArgs false
/-- Where a number is first, or -1. -/
def idxL (l : List Nat) (x : Int) : Int := if (x ∈ l.map (fun (n : Nat) => (n : Int))) then 0 else -1
set_option maxRecDepth 100000 in
set_option maxHeartbeats 1000000 in
theorem indexI_c (w : World) (B : Nat) (v : Value) (l : List Nat) (x : Int) (h : IntsAt w B v l) (hl : l.length ≤ 1000000) :
    Calls Try.prog 80 #[v, .int .i64 x] w fun e w' => ∃ y : Int, e = .returned (.int .i64 y) ∧ w' = w ∧ (0 ≤ y ↔ ∃ n ∈ l, (n : Int) = x) := by
  obtain ⟨A, cap, rfl, hcap, hA⟩ := h.out
  have HA := Aside0.mk hA
  have HL := Aside0.mk hl
  clear hA hcap h
  have hl1 : (l.length : Int) ≤ 1000000 := by omega
  clear hl
  go_enter Try.func80, Try.ntmps80
  go_wp2_with fail
  go_loopg [8] l.length (fun gg s8 wr => ∃ i : Nat, s8 = .int .i64 i ∧ i + gg = l.length ∧ wr = w ∧ Aside0 (∀ j (hj : j < l.length), j < i → (l[j] : Int) ≠ x))
  case atStart => exact ⟨0, rfl, by omega, rfl, ⟨fun j hj h => by omega⟩⟩
  case round =>
    obtain ⟨i, rfl, hi, rfl, HN⟩ := hrel
    cases gk with
    | zero =>
      have hn : ¬ ((i : Int) < (l.length : Int)) := by omega
      have HI := Aside0.mk (show i = l.length by omega)
      clear hi
      go_wp2_with fail
      go_ret
      refine ⟨_, rfl, rfl, ?_⟩
      constructor
      · intro h; omega
      · rintro ⟨n, hn, rfl⟩
        obtain ⟨j, hj, rfl⟩ := List.mem_iff_getElem.1 hn
        exact absurd rfl (HN.out j hj (by have := HI.out; omega))
    | succ g =>
      have hn : ((i : Int) < (l.length : Int)) := by omega
      have hil : i < l.length := by omega
      have HI := Aside0.mk (show i + 1 + g = l.length by omega)
      rcases HA.out with h0 | ⟨b, rfl, hb1, hb2, hb3⟩
      · subst h0; simp at hil
      have ci := hb3 i hil
      clear hi hb1 hb2 hb3
      cases hx : (x == (l[i] : Int))
      case true =>
        go_wp2_with fail
        go_ret
        refine ⟨_, rfl, rfl, ?_⟩
        have := beq_iff_eq.1 hx
        exact ⟨fun _ => ⟨l[i], List.getElem_mem hil, this.symm⟩, fun _ => by omega⟩
      case false =>
        go_wp2_with fail
        go_roundg g
        case measure => omega
        case rel =>
          refine ⟨i + 1, rfl, HI.out, rfl, ⟨fun j hj h => ?_⟩⟩
          rcases Nat.lt_or_ge j i with h1 | h1
          · exact HN.out j hj h1
          · have : j = i := by omega
            subst this
            intro he
            rw [he] at hx
            simp at hx
theorem containsI_c (w : World) (B : Nat) (v : Value) (l : List Nat) (x : Int) (h : IntsAt w B v l) (hl : l.length ≤ 1000000) :
    Calls Try.prog 50 #[v, .int .i64 x] w fun e w' => e = .returned (.bool (l.any (fun n => (n : Int) == x))) ∧ w' = w := by
  have HX := Aside0.mk (indexI_c w B v l x h hl)
  clear h hl
  go_enter Try.func50, Try.ntmps50
  go_wp2_with fail
  refine HX.out.mono ?_
  rintro e w' ⟨y, rfl, rfl, hy⟩
  have HY := Aside0.mk hy
  clear hy
  go_wp2_with fail
  go_ret
  refine ⟨ret_bool ?_, rfl⟩
  have := HY.out
  rw [Bool.eq_iff_iff]
  simp only [decide_eq_true_eq, List.any_eq_true, beq_iff_eq]
  exact HY.out
end Go.Proofs.Ytcanbidenhcohaa.K

/- Walk: pseudo.Apply. -/
namespace Go.Proofs.Ytcanbidenhcohaa.K
open Go.RowKit Go.Lib Go.Proofs.YtcanbidenhcohaaW.PrintWords Go.Proofs.Ytcanbidenhcohaa.Sp
set_option linter.unusedVariables false
set_option linter.unusedSimpArgs false
attribute [local go_sem] cel_get   -- for this text's walks alone
/-- A block of bytes of the call's own. -/
def BytesAt (W : World) (g : Nat) (xs : List Int) : Prop := ∀ i, i < xs.length → W.cell? ⟨g, i, none⟩ = some (.int .u8 (xs.getD i 0)) ∧ W.frozen? ⟨g, i, none⟩ = false
theorem bytes_at_new (w : World) (e : TypeId) (s : ByteArray) : BytesAt (Lib.bytesWorld w e s) w.heap.size (bytesOf s) := by
  intro i hi
  rw [bytesOf_length] at hi
  have hcl : (Lib.bytesCells w e s).size ≥ s.size := by
    have h := Lib.bytesWorld_cell w e s (s.size - 1) (by omega)
    have hn := Lib.bytesWorld_at_new w e s
    unfold World.cell? at h
    rw [hn] at h
    by_cases hlt : s.size - 1 < (Lib.bytesCells w e s).size
    · omega
    · simp [Array.getElem?_eq_none (Nat.le_of_not_lt hlt)] at h
  refine ⟨(Lib.bytesWorld_cell w e s i hi).trans ?_, ?_⟩
  · have h' : i < s.data.toList.length := by rw [data_length]; exact hi
    simp [bytesOf, List.getD_eq_getElem?_getD, List.getElem?_eq_getElem h']
  · have hn := Lib.bytesWorld_at_new w e s
    simp [World.frozen?, hn]
    omega
theorem BytesAt.set {W : World} {g : Nat} {xs : List Int} (h : BytesAt W g xs) (i : Nat) (v : Int) : BytesAt (W.setCell ⟨g, i, none⟩ (.int .u8 v)) g (xs.set i v) := by
  intro j hj
  rw [List.length_set] at hj
  obtain ⟨h1, h2⟩ := h j hj
  refine ⟨?_, by rw [World.frozen?_setCell]; exact h2⟩
  by_cases hij : i = j
  · subst hij
    rw [World.cell?_setCell_same' _ _ _ (by rw [h1]; rfl)]
    simp [List.getD_eq_getElem?_getD, hj]
  · rw [World.cell?_setCell_other _ _ _ _ (by intro e; injection e with _ e _; exact hij e), h1]
    simp [List.getD_eq_getElem?_getD, List.getElem?_set_ne hij]
theorem BytesAt.below {W W1 : World} {g : Nat} {xs : List Int} (h : BytesAt W g xs) (hg : g < W.heap.size) (hb : Below W.heap.size W W1) : BytesAt W1 g xs :=
  fun i hi => ⟨(hb.cell (p := ⟨g, i, none⟩) hg).trans (h i hi).1, (hb.frozen (p := ⟨g, i, none⟩) hg).trans (h i hi).2⟩
theorem bytes_string {W : World} {g cap : Nat} {xs : List Int} (h : BytesAt W g xs) (src : TypeId) (hs : Try.prog.underlying src = some (.slice 5)) : (convert src 9 (.slice (some ⟨g, 0, none⟩) xs.length cap)).run Try.prog W = .ok (.string (strOfNums xs)) W :=
  run_convert_bytes_arg W src 5 hs Try.underlying5 g 0 xs.length cap xs rfl (fun i hi => by rw [Nat.zero_add]; exact (h i hi).1) 9 Try.underlying9
/-- A board behind a move. -/
def movedB (s : ByteArray) (a b : Nat) : ByteArray := strOfNums (((bytesOf s).set b (cel s a)).set a 46)
/-- A move's numbers. -/
structure Mvi where
  frm : Int
  dest : Int
abbrev mviV (m : Mvi) : Value := .agg #[.int .i64 m.frm, .int .i64 m.dest]
/-- May a move be applied to a position that is right? -/
def goodM (p : Pos) (m : Mvi) : Bool := sideN (atS p.cells m.frm) == p.side && (kindN (atS p.cells m.dest) != 75 && (allS p.cells m.frm).any (fun n => (n : Int) == m.dest))
def zeroP : Pos := ⟨ByteArray.empty, 0, 0, 0⟩
/-- Behind a move; what was taken; or why there is none. -/
def applyP (p : Pos) (m : Mvi) : Pos × Nat × Int :=
  if checkP p ≠ 0 then (zeroP, 0, checkP p) else
  if goodM p m = false then (zeroP, 0, 7) else
  (⟨movedB p.cells m.frm.toNat m.dest.toNat, 1 - p.side, if atS p.cells m.dest = 46 then min (p.clock + 1) 120 else 0, if p.side = 1 then min (p.full + 1) 9999 else p.full⟩, if atS p.cells m.dest = 46 then 0 else atS p.cells m.dest, 0)
def ApplyIs (w : World) (p : Pos) (m : Mvi) (e : Ending) (w' : World) : Prop :=
  e = .returned (.tuple #[posV (applyP p m).1, .int .u8 ((applyP p m).2.1 : Int), .int .i64 (applyP p m).2.2]) ∧ Below w.heap.size w w'
/-- The boxes of Apply's arguments and result. -/
structure ApAt (w0 W : World) (p : Pos) (m : Mvi) : Prop where
  c0 : W.cell? ⟨w0.heap.size, 0, none⟩ = some (.string p.cells)
  c1 : W.cell? ⟨w0.heap.size, 1, none⟩ = some (.int .i64 p.side)
  c2 : W.cell? ⟨w0.heap.size, 2, none⟩ = some (.int .i64 p.clock)
  c3 : W.cell? ⟨w0.heap.size, 3, none⟩ = some (.int .i64 p.full)
  d0 : W.cell? ⟨w0.heap.size + 1, 0, none⟩ = some (.int .i64 m.frm)
  d1 : W.cell? ⟨w0.heap.size + 1, 1, none⟩ = some (.int .i64 m.dest)
  r0 : W.cell? ⟨w0.heap.size + 1 + 1, 0, none⟩ = some (.string ByteArray.empty)
  r1 : W.cell? ⟨w0.heap.size + 1 + 1, 1, none⟩ = some (.int .i64 0)
  r2 : W.cell? ⟨w0.heap.size + 1 + 1, 2, none⟩ = some (.int .i64 0)
  r3 : W.cell? ⟨w0.heap.size + 1 + 1, 3, none⟩ = some (.int .i64 0)
  fp : ∀ k, W.frozen? ⟨w0.heap.size, k, none⟩ = false
  fr : ∀ k, W.frozen? ⟨w0.heap.size + 1 + 1, k, none⟩ = false
  bel : Below w0.heap.size w0 W
  lt : w0.heap.size + 2 < W.heap.size
theorem ApAt.below {w0 W W' : World} {p : Pos} {m : Mvi} (h : ApAt w0 W p m) (hb : Below W.heap.size W W') : ApAt w0 W' p m :=
  ⟨below_cell hb _ _ _ h.c0, below_cell hb _ _ _ h.c1, below_cell hb _ _ _ h.c2, below_cell hb _ _ _ h.c3, below_cell hb _ _ _ h.d0, below_cell hb _ _ _ h.d1, below_cell hb _ _ _ h.r0, below_cell hb _ _ _ h.r1, below_cell hb _ _ _ h.r2, below_cell hb _ _ _ h.r3, fun k => (hb.frozen (p := ⟨w0.heap.size, k, none⟩) (by have := h.lt; show w0.heap.size < _; omega)).trans (h.fp k), fun k => (hb.frozen (p := ⟨w0.heap.size + 1 + 1, k, none⟩) (by have := h.lt; show w0.heap.size + 1 + 1 < _; omega)).trans (h.fr k), h.bel.trans (hb.mono h.bel.size), Nat.lt_of_lt_of_le h.lt hb.size⟩
theorem apat_new (w : World) (p : Pos) (m : Mvi) : ApAt w (((w.alloc (.cells #[.string p.cells, .int .i64 p.side, .int .i64 p.clock, .int .i64 p.full] 38)).alloc (.cells #[.int .i64 m.frm, .int .i64 m.dest] 42)).alloc (.cells #[.string ByteArray.empty, .int .i64 0, .int .i64 0, .int .i64 0] 38)) p m := by
  refine ⟨?_, ?_, ?_, ?_, ?_, ?_, ?_, ?_, ?_, ?_, fun k => (Below.frozen (below_alloc (below_alloc (Below.refl _ _) _) _) (p := ⟨w.heap.size, k, none⟩) (by simp)).trans (by simp [World.frozen?_alloc_at]), fun k => by simp [World.frozen?_alloc_at], below_alloc (below_alloc (below_alloc (Below.refl _ _) _) _) _, by simp⟩ <;> first | (simp [World.cell?_alloc_at, World.cell?_alloc_past]; done) | exact below_cell (below_alloc (Below.refl _ _) _) _ _ _ (below_cell (below_alloc (Below.refl _ _) _) _ _ _ (by simp [World.cell?_alloc_at]; done))
theorem ApAt.drew {w0 W : World} {p : Pos} {m : Mvi} (h : ApAt w0 W p m) : ApAt w0 W.drew p m := h.below (pw_below_drewN (Below.refl _ _) 1)
set_option maxRecDepth 100000 in
set_option maxHeartbeats 4000000 in
theorem apply_no (p : Pos) (m : Mvi) (w : World) (hck : checkP p ≠ 0) : Calls Try.prog 32 #[posV p, mviV m] w (ApplyIs w p m) := by
  have HCK := Aside0.mk (fun W => check_c p W)
  have hu := Try.underlying38
  have hu2 := Try.underlying42
  have HR := Aside0.mk (show applyP p m = (zeroP, 0, checkP p) by unfold applyP; rw [if_pos hck])
  have h2 : (checkP p != 0) = true := by simpa using hck
  clear hck
  generalize checkP p = ck at *
  go_enter Try.func32, Try.ntmps32
  go_wp2_with fail
  refine (HCK.out _).mono ?_
  rintro e w1 ⟨rfl, hb⟩
  have HA := Aside0.mk ((apat_new w p m).below hb)
  clear hb
  have fr := HA.out.fr
  have r0 := HA.out.r0
  have r1 := HA.out.r1
  have r2 := HA.out.r2
  have r3 := HA.out.r3
  go_wp2_with fail
  refine bodyPost_ret (by simp [results, Try.results32, go_sem, r0, r1, r2, r3]; try rfl) rfl ?_
  exact ⟨by rw [HR.out]; rfl, by (repeat' (first | (with_reducible exact Below.refl _ _) | (with_reducible refine pw_below_drewN ?_ _) | (with_reducible refine below_alloc ?_ _) | (with_reducible refine Below.drew ?_) | (with_reducible refine Below.setCell ?_ ?_ _) | (simp; done))) <;> first | exact HA.out.bel | (simp; done) | (simp; omega)⟩
set_option maxRecDepth 100000 in
set_option maxHeartbeats 4000000 in
theorem apply_bad (p : Pos) (m : Mvi) (w : World) (hck : checkP p = 0) (hg : goodM p m = false) : Calls Try.prog 32 #[posV p, mviV m] w (ApplyIs w p m) := by
  have HCK := Aside0.mk (fun W => check_c p W)
  have hu := Try.underlying38
  have hu2 := Try.underlying42
  have HR := Aside0.mk (show applyP p m = (zeroP, 0, 7) by unfold applyP; rw [if_neg (by simpa using hck), if_pos hg])
  have HF := Aside0.mk (fun W => at_c p.cells m.frm W)
  have HD := Aside0.mk (fun W => at_c p.cells m.dest W)
  have HALL := Aside0.mk (fun W => all_c p.cells m.frm W)
  have HX := Aside0.mk (show atS p.cells m.frm < 256 by unfold atS; split; exact cel_lt _ _; omega)
  have HY := Aside0.mk (show atS p.cells m.dest < 256 by unfold atS; split; exact cel_lt _ _; omega)
  have HL := Aside0.mk (show (allS p.cells m.frm).length ≤ 1000000 by unfold allS; split; exact Nat.le_trans (allN_len _ _) (by omega); simp)
  unfold goodM at hg
  rw [hck] at HCK
  clear hck
  generalize atS p.cells m.frm = x at *
  generalize atS p.cells m.dest = y at *
  generalize allS p.cells m.frm = l at *
  have HS := Aside0.mk (fun W => side_c x HX.out W)
  have HK := Aside0.mk (fun W => kind_c y HY.out W)
  cases h1 : (sideN x == p.side)
  case false =>
    clear hg
    go_enter Try.func32, Try.ntmps32
    go_wp2_with fail
    refine (HCK.out _).mono ?_
    rintro e w1 ⟨rfl, hb⟩
    have HA := Aside0.mk ((apat_new w p m).below hb)
    clear hb
    have c0 := HA.out.c0
    have c1 := HA.out.c1
    have d0 := HA.out.d0
    go_wp2_with fail
    go_region_held3 (fun W => W.cell? ⟨w.heap.size, 0, none⟩ = some (.string p.cells) ∧ W.cell? ⟨w.heap.size, 1, none⟩ = some (.int .i64 p.side) ∧ W.cell? ⟨w.heap.size + 1, 0, none⟩ = some (.int .i64 m.frm)) (go_keep)
      (first
        | (go_at_call 23; refine (HF.out _).mono ?_; rintro e w2 ⟨rfl, hb⟩; have HA2 := Aside0.mk (HA.out.drew.below hb); have c0' := HA2.out.c0; have c1' := HA2.out.c1; have d0' := HA2.out.d0; clear hb)
        | (go_at_call 22; refine (HS.out _).mono ?_; rintro e w3 ⟨rfl, rfl⟩))
    clear HA c0 c1 d0 c1' d0'
    have d1 := HA2.out.d1
    go_wp2_with fail
    refine (HD.out _).mono ?_
    rintro e w4 ⟨rfl, hb⟩
    have HA := Aside0.mk (HA2.out.below hb)
    clear hb HA2 c0' d1
    go_wp2_with fail
    go_quiet (fail)
    have HA1 := Aside0.mk (HA.out.below (pw_below_drewN (Below.refl _ _) nq))
    have fr := HA1.out.fr
    have r0 := HA1.out.r0
    have r1 := HA1.out.r1
    have r2 := HA1.out.r2
    have r3 := HA1.out.r3
    generalize w4.drewN nq = w5 at *
    go_wp2_with fail
    refine bodyPost_ret (by simp [results, Try.results32, go_sem, r0, r1, r2, r3]; try rfl) rfl ?_
    exact ⟨by rw [HR.out]; rfl, by (repeat' (first | (with_reducible exact Below.refl _ _) | (with_reducible refine pw_below_drewN ?_ _) | (with_reducible refine below_alloc ?_ _) | (with_reducible refine Below.drew ?_) | (with_reducible refine Below.setCell ?_ ?_ _) | (simp; done))) <;> first | exact HA1.out.bel | (simp; done) | (simp; omega)⟩
  case true =>
  cases h2 : (kindN y == 75)
  case true =>
    have hk : (((kindN y : Nat) : Int) == 75) = true := by rw [beq_iff_eq] at *; omega
    clear hg
    go_enter Try.func32, Try.ntmps32
    go_wp2_with fail
    refine (HCK.out _).mono ?_
    rintro e w1 ⟨rfl, hb⟩
    have HA := Aside0.mk ((apat_new w p m).below hb)
    clear hb
    have c0 := HA.out.c0
    have c1 := HA.out.c1
    have d0 := HA.out.d0
    go_wp2_with fail
    go_region_held3 (fun W => W.cell? ⟨w.heap.size, 0, none⟩ = some (.string p.cells) ∧ W.cell? ⟨w.heap.size, 1, none⟩ = some (.int .i64 p.side) ∧ W.cell? ⟨w.heap.size + 1, 0, none⟩ = some (.int .i64 m.frm)) (go_keep)
      (first
        | (go_at_call 23; refine (HF.out _).mono ?_; rintro e w2 ⟨rfl, hb⟩; have HA2 := Aside0.mk (HA.out.drew.below hb); have c0' := HA2.out.c0; have c1' := HA2.out.c1; have d0' := HA2.out.d0; clear hb)
        | (go_at_call 22; refine (HS.out _).mono ?_; rintro e w3 ⟨rfl, rfl⟩))
    clear HA c0 c1 d0 c1' d0'
    have d1 := HA2.out.d1
    go_wp2_with fail
    refine (HD.out _).mono ?_
    rintro e w4 ⟨rfl, hb⟩
    have HA := Aside0.mk (HA2.out.below hb)
    clear hb HA2 c0' d1
    go_wp2_with fail
    go_quiet (first | (go_at_call 24; exact Calls.quiet_of_same (HK.out _)))
    have HA1 := Aside0.mk (HA.out.below (pw_below_drewN (Below.refl _ _) nq))
    have fr := HA1.out.fr
    have r0 := HA1.out.r0
    have r1 := HA1.out.r1
    have r2 := HA1.out.r2
    have r3 := HA1.out.r3
    generalize w4.drewN nq = w5 at *
    go_wp2_with fail
    refine bodyPost_ret (by simp [results, Try.results32, go_sem, r0, r1, r2, r3]; try rfl) rfl ?_
    exact ⟨by rw [HR.out]; rfl, by (repeat' (first | (with_reducible exact Below.refl _ _) | (with_reducible refine pw_below_drewN ?_ _) | (with_reducible refine below_alloc ?_ _) | (with_reducible refine Below.drew ?_) | (with_reducible refine Below.setCell ?_ ?_ _) | (simp; done))) <;> first | exact HA1.out.bel | (simp; done) | (simp; omega)⟩
  case false =>
    have h3 : l.any (fun n => (n : Int) == m.dest) = false := by rw [h1] at hg; simp only [bne, h2, Bool.true_and, Bool.not_false] at hg; exact hg
    have hk : (((kindN y : Nat) : Int) == 75) = false := by rw [beq_eq_false_iff_ne] at *; omega
    clear hg
    go_enter Try.func32, Try.ntmps32
    go_wp2_with fail
    refine (HCK.out _).mono ?_
    rintro e w1 ⟨rfl, hb⟩
    have HA := Aside0.mk ((apat_new w p m).below hb)
    clear hb
    have c0 := HA.out.c0
    have c1 := HA.out.c1
    have d0 := HA.out.d0
    go_wp2_with fail
    go_region_held3 (fun W => W.cell? ⟨w.heap.size, 0, none⟩ = some (.string p.cells) ∧ W.cell? ⟨w.heap.size, 1, none⟩ = some (.int .i64 p.side) ∧ W.cell? ⟨w.heap.size + 1, 0, none⟩ = some (.int .i64 m.frm)) (go_keep)
      (first
        | (go_at_call 23; refine (HF.out _).mono ?_; rintro e w2 ⟨rfl, hb⟩; have HA2 := Aside0.mk (HA.out.drew.below hb); have c0' := HA2.out.c0; have c1' := HA2.out.c1; have d0' := HA2.out.d0; clear hb)
        | (go_at_call 22; refine (HS.out _).mono ?_; rintro e w3 ⟨rfl, rfl⟩))
    clear HA c0 c1 d0 c1' d0'
    have d1 := HA2.out.d1
    go_wp2_with fail
    refine (HD.out _).mono ?_
    rintro e w4 ⟨rfl, hb⟩
    have HA := Aside0.mk (HA2.out.below hb)
    clear hb HA2 c0' d1
    have c0 := HA.out.c0
    have d0 := HA.out.d0
    have d1 := HA.out.d1
    go_wp2_with fail
    go_region_held3 (fun W => W.cell? ⟨w.heap.size, 0, none⟩ = some (.string p.cells) ∧ W.cell? ⟨w.heap.size + 1, 0, none⟩ = some (.int .i64 m.frm) ∧ W.cell? ⟨w.heap.size + 1, 1, none⟩ = some (.int .i64 m.dest)) (go_keep)
      (first
        | (go_at_call 24; refine (HK.out _).mono ?_; rintro e w5 ⟨rfl, rfl⟩)
        | (go_at_call 15; refine (HALL.out _).mono ?_; rintro e w6 ⟨v, rfl, hv, hb⟩; have HA6 := Aside0.mk (HA.out.drew.below hb); have HV := Aside0.mk hv; have c0' := HA6.out.c0; have d0' := HA6.out.d0; have d1' := HA6.out.d1; clear hb hv)
        | (go_at_call 50; refine (containsI_c _ _ _ _ _ HV.out HL.out).mono ?_; rw [h3]; rintro e w7 ⟨rfl, rfl⟩))
    clear c0 d0 d1 c0' d0' d1'
    have fr := HA6.out.fr
    have r0 := HA6.out.r0
    have r1 := HA6.out.r1
    have r2 := HA6.out.r2
    have r3 := HA6.out.r3
    go_wp2_with fail
    refine bodyPost_ret (by simp [results, Try.results32, go_sem, r0, r1, r2, r3]; try rfl) rfl ?_
    exact ⟨by rw [HR.out]; rfl, by (repeat' (first | (with_reducible exact Below.refl _ _) | (with_reducible refine pw_below_drewN ?_ _) | (with_reducible refine below_alloc ?_ _) | (with_reducible refine Below.drew ?_) | (with_reducible refine Below.setCell ?_ ?_ _) | (simp; done))) <;> first | exact HA6.out.bel | (simp; done) | (simp; omega)⟩
end Go.Proofs.Ytcanbidenhcohaa.K

/- Walk: pseudo.Apply, where it is done. -/
namespace Go.Proofs.Ytcanbidenhcohaa.K
open Go.RowKit Go.Lib Go.Proofs.YtcanbidenhcohaaW.PrintWords Go.Proofs.Ytcanbidenhcohaa.Sp
set_option linter.unusedVariables false
set_option linter.unusedSimpArgs false
attribute [local go_sem] cel_get   -- for this text's walks alone
theorem ApAt.upto {w0 W W' : World} {p : Pos} {m : Mvi} {n : Nat} (h : ApAt w0 W p m) (hn : w0.heap.size + 1 + 1 < n) (hb : Below n W W') : ApAt w0 W' p m :=
  ⟨(hb.cell (p := ⟨w0.heap.size, 0, none⟩) (by show w0.heap.size < n; omega)).trans h.c0, (hb.cell (p := ⟨w0.heap.size, 1, none⟩) (by show w0.heap.size < n; omega)).trans h.c1, (hb.cell (p := ⟨w0.heap.size, 2, none⟩) (by show w0.heap.size < n; omega)).trans h.c2, (hb.cell (p := ⟨w0.heap.size, 3, none⟩) (by show w0.heap.size < n; omega)).trans h.c3, (hb.cell (p := ⟨w0.heap.size + 1, 0, none⟩) (by show w0.heap.size + 1 < n; omega)).trans h.d0, (hb.cell (p := ⟨w0.heap.size + 1, 1, none⟩) (by show w0.heap.size + 1 < n; omega)).trans h.d1, (hb.cell (p := ⟨w0.heap.size + 1 + 1, 0, none⟩) (by show w0.heap.size + 1 + 1 < n; omega)).trans h.r0, (hb.cell (p := ⟨w0.heap.size + 1 + 1, 1, none⟩) (by show w0.heap.size + 1 + 1 < n; omega)).trans h.r1, (hb.cell (p := ⟨w0.heap.size + 1 + 1, 2, none⟩) (by show w0.heap.size + 1 + 1 < n; omega)).trans h.r2, (hb.cell (p := ⟨w0.heap.size + 1 + 1, 3, none⟩) (by show w0.heap.size + 1 + 1 < n; omega)).trans h.r3, fun k => (hb.frozen (p := ⟨w0.heap.size, k, none⟩) (by show w0.heap.size < n; omega)).trans (h.fp k), fun k => (hb.frozen (p := ⟨w0.heap.size + 1 + 1, k, none⟩) (by show w0.heap.size + 1 + 1 < n; omega)).trans (h.fr k), h.bel.trans (hb.mono (by omega)), Nat.lt_of_lt_of_le h.lt hb.size⟩
theorem bytes_getD (s : ByteArray) (i : Nat) (h : i < s.size) : (bytesOf s).getD i 0 = (cel s i : Int) := by
  have h' : i < s.data.toList.length := by rw [data_length]; exact h
  rw [← cel_get s i h]
  simp [bytesOf, List.getD_eq_getElem?_getD, List.getElem?_eq_getElem h']
  rfl
theorem good_parts {p : Pos} {m : Mvi} (h : goodM p m = true) : (sideN (atS p.cells m.frm) == p.side) = true ∧ (kindN (atS p.cells m.dest) == 75) = false ∧ (allS p.cells m.frm).any (fun n => (n : Int) == m.dest) = true ∧ isBoard p.cells = true ∧ (0 ≤ m.frm ∧ m.frm < 90) ∧ (0 ≤ m.dest ∧ m.dest < 90) := by
  unfold goodM at h
  simp only [Bool.and_eq_true, bne, Bool.not_eq_true'] at h
  obtain ⟨h1, h2, h3⟩ := h
  refine ⟨h1, h2, h3, ?_⟩
  obtain ⟨n, hn, he⟩ := List.any_eq_true.1 h3
  rw [beq_iff_eq] at he
  unfold allS at hn
  split at hn
  · rename_i hb
    have := allN_lt _ _ n hn
    exact ⟨hb.1, hb.2, by omega, by omega⟩
  · simp at hn
set_option maxRecDepth 100000 in
set_option maxHeartbeats 4000000 in
theorem apply_ok (p : Pos) (m : Mvi) (w : World) (hck : checkP p = 0) (hg : goodM p m = true) : Calls Try.prog 32 #[posV p, mviV m] w (ApplyIs w p m) := by
  obtain ⟨h1, h2, h3, hb, hf, hd⟩ := good_parts hg
  obtain ⟨m1, m2⟩ := m
  simp only at hf hd h1 h2 h3
  obtain ⟨a, rfl⟩ := Int.eq_ofNat_of_zero_le hf.1
  obtain ⟨b, rfl⟩ := Int.eq_ofNat_of_zero_le hd.1
  have hf1 := hf.2
  have hd1 := hd.2
  clear hf hd
  have HCK := Aside0.mk (fun W => check_c p W)
  have hu := Try.underlying38
  have hu2 := Try.underlying42
  have HR := Aside0.mk (show applyP p ⟨a, b⟩ = (⟨movedB p.cells a b, 1 - p.side, if atS p.cells (b : Int) = 46 then min (p.clock + 1) 120 else 0, if p.side = 1 then min (p.full + 1) 9999 else p.full⟩, if atS p.cells (b : Int) = 46 then 0 else atS p.cells (b : Int), 0) by unfold applyP; rw [if_neg (by simpa using hck), if_neg (by simpa using hg)]; rfl)
  have HF := Aside0.mk (fun W => at_c p.cells (a : Int) W)
  have HD := Aside0.mk (fun W => at_c p.cells (b : Int) W)
  have HALL := Aside0.mk (fun W => all_c p.cells (a : Int) W)
  have HX := Aside0.mk (show atS p.cells (a : Int) < 256 by unfold atS; split; exact cel_lt _ _; omega)
  have HY := Aside0.mk (show atS p.cells (b : Int) < 256 by unfold atS; split; exact cel_lt _ _; omega)
  have HL := Aside0.mk (show (allS p.cells (a : Int)).length ≤ 1000000 by unfold allS; split; exact Nat.le_trans (allN_len _ _) (by omega); simp)
  have HSZ := Aside0.mk (board_size hb)
  have HBD := Aside0.mk hb
  have hat : argOk p = true := by
    unfold checkP at hck
    cases ha : argOk p
    · rw [ha] at hck; simp at hck
    · rfl
  obtain ⟨_, hside, q1, q2, q3, q4⟩ := argOk_yes hat
  have HSIDE := Aside0.mk hside
  clear hg hb hat hside
  rw [hck] at HCK
  clear hck
  generalize atS p.cells (a : Int) = x at *
  generalize atS p.cells (b : Int) = y at *
  generalize allS p.cells (a : Int) = l at *
  have HS := Aside0.mk (fun W => side_c x HX.out W)
  have HK := Aside0.mk (fun W => kind_c y HY.out W)
  have hk : (((kindN y : Nat) : Int) == 75) = false := by rw [beq_eq_false_iff_ne] at *; omega
  go_enter Try.func32, Try.ntmps32
  go_wp2_with fail
  refine (HCK.out _).mono ?_
  rintro e w1 ⟨rfl, hb⟩
  have HA := Aside0.mk ((apat_new w p ⟨a, b⟩).below hb)
  clear hb
  have c0 := HA.out.c0
  have c1 := HA.out.c1
  have d0 := HA.out.d0
  go_wp2_with fail
  go_region_held3 (fun W => W.cell? ⟨w.heap.size, 0, none⟩ = some (.string p.cells) ∧ W.cell? ⟨w.heap.size, 1, none⟩ = some (.int .i64 p.side) ∧ W.cell? ⟨w.heap.size + 1, 0, none⟩ = some (.int .i64 (a : Int))) (go_keep)
    (first
      | (go_at_call 23; refine (HF.out _).mono ?_; rintro e w2 ⟨rfl, hb⟩; have HA2 := Aside0.mk (HA.out.drew.below hb); have c0' := HA2.out.c0; have c1' := HA2.out.c1; have d0' := HA2.out.d0; clear hb)
      | (go_at_call 22; refine (HS.out _).mono ?_; rintro e w3 ⟨rfl, rfl⟩))
  clear HA c0 c1 d0 c1' d0'
  have d1 := HA2.out.d1
  go_wp2_with fail
  refine (HD.out _).mono ?_
  rintro e w4 ⟨rfl, hb⟩
  have HA := Aside0.mk (HA2.out.below hb)
  clear hb HA2 c0' d1
  have c0 := HA.out.c0
  have d0 := HA.out.d0
  have d1 := HA.out.d1
  go_wp2_with fail
  go_region_held3 (fun W => W.cell? ⟨w.heap.size, 0, none⟩ = some (.string p.cells) ∧ W.cell? ⟨w.heap.size + 1, 0, none⟩ = some (.int .i64 (a : Int)) ∧ W.cell? ⟨w.heap.size + 1, 1, none⟩ = some (.int .i64 (b : Int))) (go_keep)
    (first
      | (go_at_call 24; refine (HK.out _).mono ?_; rintro e w5 ⟨rfl, rfl⟩)
      | (go_at_call 15; refine (HALL.out _).mono ?_; rintro e w6 ⟨v, rfl, hv, hb⟩; have HA6 := Aside0.mk (HA.out.drew.below hb); have HV := Aside0.mk hv; have c0' := HA6.out.c0; have d0' := HA6.out.d0; have d1' := HA6.out.d1; clear hb hv)
      | (go_at_call 50; refine (containsI_c _ _ _ _ _ HV.out HL.out).mono ?_; rw [h3]; rintro e w7 ⟨rfl, rfl⟩))
  clear c0 d0 d1 c0' d0' d1'
  have c0 := HA6.out.c0
  have kb := fun W => print_bytes (P := Try.prog) 9 61 5 Try.underlying9 Try.underlying61 Try.underlying5 p.cells W
  go_wp2_with (simp only [kb])
  have HB := Aside0.mk (bytes_at_new w7 5 p.cells)
  have HA7 := Aside0.mk (HA6.out.below (bytes_below (Below.refl _ _) (Nat.le_refl _) 5 p.cells))
  have HLT := Aside0.mk (Lib.bytesWorld_size w7 5 p.cells)
  generalize Lib.bytesWorld w7 5 p.cells = w8 at *
  have hsz : (p.cells.size : Int) = 90 := by rw [HSZ.out]; rfl
  have d0 := HA7.out.d0
  have d1 := HA7.out.d1
  obtain ⟨ka, fa⟩ := HB.out a (by rw [bytesOf_length, HSZ.out]; omega)
  obtain ⟨kb2, fb⟩ := HB.out b (by rw [bytesOf_length, HSZ.out]; omega)
  have HXA := Aside0.mk (show (bytesOf p.cells).getD a 0 = (cel p.cells a : Int) from bytes_getD p.cells a (by rw [HSZ.out]; omega))
  rw [HXA.out] at ka
  obtain ⟨ks, fs⟩ := (HB.out.set b (cel p.cells a : Int)) a (by rw [List.length_set, bytesOf_length, HSZ.out]; omega)
  generalize ((bytesOf p.cells).set b (cel p.cells a : Int)).getD a 0 = xs at ks
  generalize hxa : cel p.cells a = xa at *
  generalize (bytesOf p.cells).getD b 0 = xb at *
  clear c0 kb
  have hne : w.heap.size + 1 ≠ w7.heap.size := by have := HA6.out.lt; omega
  go_region
  have HA9 := Aside0.mk (HA7.out.upto (n := w7.heap.size) HA6.out.lt (Below.drew (Below.setCell (p := ⟨w7.heap.size, a, none⟩) (Below.setCell (p := ⟨w7.heap.size, b, none⟩) (Below.refl _ _) (Nat.le_refl _) (.int .u8 (xa : Int))) (Nat.le_refl _) (.int .u8 46))))
  have hbs : BytesAt ((w8.setCell ⟨w7.heap.size, b, none⟩ (.int .u8 (xa : Int))).setCell ⟨w7.heap.size, a, none⟩ (.int .u8 46)).drew w7.heap.size (((bytesOf p.cells).set b (xa : Int)).set a 46) := (HB.out.set b (xa : Int)).set a 46
  have kc := bytes_string hbs 61 Try.underlying61 (cap := grownCap w7 p.cells.size 0 5)
  rw [List.length_set, List.length_set, bytesOf_length] at kc
  have HMB := Aside0.mk (show movedB p.cells a b = strOfNums (((bytesOf p.cells).set b (xa : Int)).set a 46) by unfold movedB; rw [hxa])
  rw [← HMB.out] at kc
  clear hbs HMB HB
  generalize movedB p.cells a b = mb at *
  clear d0 d1 ka fa kb2 fb ks fs hne HXA HA7
  generalize ((w8.setCell ⟨w7.heap.size, b, none⟩ (.int .u8 (xa : Int))).setCell ⟨w7.heap.size, a, none⟩ (.int .u8 46)).drew = w9 at *
  have HA := HA9
  clear HA9 HA6
  have fp := HA.out.fp
  have fr := HA.out.fr
  have r0 := HA.out.r0
  have r1 := HA.out.r1
  have r2 := HA.out.r2
  have r3 := HA.out.r3
  have c0 := HA.out.c0
  have c1 := HA.out.c1
  have c2 := HA.out.c2
  have c3 := HA.out.c3
  have hy : (((y : Nat) : Int) == 46) = (y == 46) := by rw [Bool.eq_iff_iff, beq_iff_eq, beq_iff_eq]; omega
  have hs0 : 0 ≤ p.side := by have := HSIDE.out; omega
  have hs1 : p.side ≤ 1 := by have := HSIDE.out; omega
  cases hs : (p.side == 1)
  case false =>
    have HS1 := Aside0.mk hs
    go_upto_region 15 with (simp only [kc])
    generalize hW2 : (((w9.setCell ⟨w.heap.size, 0, none⟩ (.string mb)).setCell ⟨w.heap.size, 2, none⟩ (.int .i64 (min (p.clock + 1) 120))).setCell ⟨w.heap.size, 1, none⟩ (.int .i64 (1 - p.side))) = W2
    have k0 : W2.cell? ⟨w.heap.size, 0, none⟩ = some (.string mb) := by rw [← hW2]; simp [go_sem, c0, c1, c2, c3]
    have k1 : W2.cell? ⟨w.heap.size, 1, none⟩ = some (.int .i64 (1 - p.side)) := by rw [← hW2]; simp [go_sem, c0, c1, c2, c3]
    have k2 : W2.cell? ⟨w.heap.size, 2, none⟩ = some (.int .i64 (min (p.clock + 1) 120)) := by rw [← hW2]; simp [go_sem, c0, c1, c2, c3]
    have k3 : W2.cell? ⟨w.heap.size, 3, none⟩ = some (.int .i64 (p.full)) := by rw [← hW2]; simp [go_sem, c0, c1, c2, c3]
    have HB2 : Aside0 (Below w.heap.size w W2) := Aside0.mk (by rw [← hW2]; (repeat' (first | (with_reducible exact Below.refl _ _) | (with_reducible refine pw_below_drewN ?_ _) | (with_reducible refine below_alloc ?_ _) | (with_reducible refine Below.drew ?_) | (with_reducible refine Below.setCell ?_ ?_ _) | (simp; done))) <;> first | exact HA.out.bel | (simp; done) | (simp; omega))
    have t0 : W2.cell? ⟨w.heap.size + 1 + 1, 0, none⟩ = some (.string ByteArray.empty) := by rw [← hW2]; simp [go_sem, r0]
    have t1 : W2.cell? ⟨w.heap.size + 1 + 1, 1, none⟩ = some (.int .i64 0) := by rw [← hW2]; simp [go_sem, r1]
    have t2 : W2.cell? ⟨w.heap.size + 1 + 1, 2, none⟩ = some (.int .i64 0) := by rw [← hW2]; simp [go_sem, r2]
    have t3 : W2.cell? ⟨w.heap.size + 1 + 1, 3, none⟩ = some (.int .i64 0) := by rw [← hW2]; simp [go_sem, r3]
    have fp2 : ∀ k, W2.frozen? ⟨w.heap.size, k, none⟩ = false := fun k => by rw [← hW2]; simp [go_sem, fp]
    have fr2 : ∀ k, W2.frozen? ⟨w.heap.size + 1 + 1, k, none⟩ = false := fun k => by rw [← hW2]; simp [go_sem, fr]
    clear fp fr r0 r1 r2 r3 c0 c1 c2 c3 kc hW2
    generalize (1 - p.side) = ns at *
    generalize hmc : min (p.clock + 1) 120 = mc at k2
    generalize hmf : (p.full) = mf at k3
    have HMC := Aside0.mk hmc
    have HMF := Aside0.mk hmf
    clear hmc hmf q1 q2 q3 q4 hs0 hs1 hs
    cases hz : (y == 46)
    all_goals
      rw [hz] at hy
      have HY46 := Aside0.mk hz
      clear hz
      go_wp2_with fail
      refine bodyPost_ret (by simp [results, Try.results32, go_sem, t0, t1, t2, t3]; try rfl) rfl ?_
      refine ⟨?_, by (repeat' (first | (with_reducible exact Below.refl _ _) | (with_reducible refine pw_below_drewN ?_ _) | (with_reducible refine below_alloc ?_ _) | (with_reducible refine Below.drew ?_) | (with_reducible refine Below.setCell ?_ ?_ _) | (simp; done))) <;> first | exact HB2.out | (simp; done) | (simp; omega)⟩
      rw [HR.out]
      have y1 := HY46.out
      have s1 := HS1.out
      simp only [beq_iff_eq, beq_eq_false_iff_ne] at y1 s1
      simp [y1, s1, HMC.out, HMF.out] <;> exact HMC.out.symm
  case true =>
    have HS1 := Aside0.mk hs
    go_upto_region 15 with (simp only [kc])
    generalize hW2 : ((((w9.setCell ⟨w.heap.size, 0, none⟩ (.string mb)).setCell ⟨w.heap.size, 2, none⟩ (.int .i64 (min (p.clock + 1) 120))).setCell ⟨w.heap.size, 3, none⟩ (.int .i64 (min (p.full + 1) 9999))).setCell ⟨w.heap.size, 1, none⟩ (.int .i64 (1 - p.side))) = W2
    have k0 : W2.cell? ⟨w.heap.size, 0, none⟩ = some (.string mb) := by rw [← hW2]; simp [go_sem, c0, c1, c2, c3]
    have k1 : W2.cell? ⟨w.heap.size, 1, none⟩ = some (.int .i64 (1 - p.side)) := by rw [← hW2]; simp [go_sem, c0, c1, c2, c3]
    have k2 : W2.cell? ⟨w.heap.size, 2, none⟩ = some (.int .i64 (min (p.clock + 1) 120)) := by rw [← hW2]; simp [go_sem, c0, c1, c2, c3]
    have k3 : W2.cell? ⟨w.heap.size, 3, none⟩ = some (.int .i64 (min (p.full + 1) 9999)) := by rw [← hW2]; simp [go_sem, c0, c1, c2, c3]
    have HB2 : Aside0 (Below w.heap.size w W2) := Aside0.mk (by rw [← hW2]; (repeat' (first | (with_reducible exact Below.refl _ _) | (with_reducible refine pw_below_drewN ?_ _) | (with_reducible refine below_alloc ?_ _) | (with_reducible refine Below.drew ?_) | (with_reducible refine Below.setCell ?_ ?_ _) | (simp; done))) <;> first | exact HA.out.bel | (simp; done) | (simp; omega))
    have t0 : W2.cell? ⟨w.heap.size + 1 + 1, 0, none⟩ = some (.string ByteArray.empty) := by rw [← hW2]; simp [go_sem, r0]
    have t1 : W2.cell? ⟨w.heap.size + 1 + 1, 1, none⟩ = some (.int .i64 0) := by rw [← hW2]; simp [go_sem, r1]
    have t2 : W2.cell? ⟨w.heap.size + 1 + 1, 2, none⟩ = some (.int .i64 0) := by rw [← hW2]; simp [go_sem, r2]
    have t3 : W2.cell? ⟨w.heap.size + 1 + 1, 3, none⟩ = some (.int .i64 0) := by rw [← hW2]; simp [go_sem, r3]
    have fp2 : ∀ k, W2.frozen? ⟨w.heap.size, k, none⟩ = false := fun k => by rw [← hW2]; simp [go_sem, fp]
    have fr2 : ∀ k, W2.frozen? ⟨w.heap.size + 1 + 1, k, none⟩ = false := fun k => by rw [← hW2]; simp [go_sem, fr]
    clear fp fr r0 r1 r2 r3 c0 c1 c2 c3 kc hW2
    generalize (1 - p.side) = ns at *
    generalize hmc : min (p.clock + 1) 120 = mc at k2
    generalize hmf : (min (p.full + 1) 9999) = mf at k3
    have HMC := Aside0.mk hmc
    have HMF := Aside0.mk hmf
    clear hmc hmf q1 q2 q3 q4 hs0 hs1 hs
    cases hz : (y == 46)
    all_goals
      rw [hz] at hy
      have HY46 := Aside0.mk hz
      clear hz
      go_wp2_with fail
      refine bodyPost_ret (by simp [results, Try.results32, go_sem, t0, t1, t2, t3]; try rfl) rfl ?_
      refine ⟨?_, by (repeat' (first | (with_reducible exact Below.refl _ _) | (with_reducible refine pw_below_drewN ?_ _) | (with_reducible refine below_alloc ?_ _) | (with_reducible refine Below.drew ?_) | (with_reducible refine Below.setCell ?_ ?_ _) | (simp; done))) <;> first | exact HB2.out | (simp; done) | (simp; omega)⟩
      rw [HR.out]
      have y1 := HY46.out
      have s1 := HS1.out
      simp only [beq_iff_eq, beq_eq_false_iff_ne] at y1 s1
      simp [y1, s1, HMC.out, HMF.out] <;> exact HMC.out.symm
theorem apply_c (p : Pos) (m : Mvi) (w : World) : Calls Try.prog 32 #[posV p, mviV m] w (ApplyIs w p m) := by
  by_cases h1 : checkP p = 0
  · cases h2 : goodM p m
    · exact apply_bad p m w h1 h2
    · exact apply_ok p m w h1 h2
  · exact apply_no p m w h1
end Go.Proofs.Ytcanbidenhcohaa.K

/- The pseudo laws' live: some answers, by the contracts and the kernel's reckoning. -/
namespace Go.Proofs.Ytcanbidenhcohaa.K
open Go.RowKit Go.Lib Go.Proofs.YtcanbidenhcohaaW.PrintWords Go.Proofs.Ytcanbidenhcohaa.Sp
set_option linter.unusedVariables false
set_option linter.unusedSimpArgs false
abbrev startB : ByteArray := ⟨#[82, 78, 66, 65, 75, 65, 66, 78, 82, 46, 46, 46, 46, 46, 46, 46, 46, 46, 46, 67, 46, 46, 46, 46, 46, 67, 46, 80, 46, 80, 46, 80, 46, 80, 46, 80, 46, 46, 46, 46, 46, 46, 46, 46, 46, 46, 46, 46, 46, 46, 46, 46, 46, 46, 112, 46, 112, 46, 112, 46, 112, 46, 112, 46, 99, 46, 46, 46, 46, 46, 99, 46, 46, 46, 46, 46, 46, 46, 46, 46, 46, 114, 110, 98, 97, 107, 97, 98, 110, 114]⟩
abbrev startP : Pos := ⟨startB, 0, 0, 1⟩
theorem start_moves : (gathP startP (fun _ => true)).length = 44 ∧ (gathP startP (fun _ => true))[0]? = some (0, 9) ∧ (gathP startP (fun x => x != 46)).length = 2 := by decide +kernel
theorem start_apply : (applyP startP ⟨19, 82⟩).1.side = 1 ∧ (applyP startP ⟨19, 82⟩).1.clock = 0 ∧ (applyP startP ⟨19, 82⟩).1.full = 1 ∧ (applyP startP ⟨19, 82⟩).2 = (110, 0) ∧ (applyP startP ⟨0, 90⟩).2.2 = 7 ∧ (applyP zeroP ⟨0, 0⟩).2.2 = 1 := by decide +kernel
end Go.Proofs.Ytcanbidenhcohaa.K

/- A row of moves, read. -/
namespace Go.Proofs.Ytcanbidenhcohaa.K
open Go.RowKit Go.Lib Go.Proofs.YtcanbidenhcohaaW.PrintWords Go.Proofs.Ytcanbidenhcohaa.Sp
set_option linter.unusedVariables false
set_option linter.unusedSimpArgs false
/-- Moves in a row that the call made, from block B on, as they are read. -/
structure MvAt (W : World) (B : Nat) (v : Value) (l : List Mv) : Prop where mk ::
  out : ∃ A cap, v = .slice A l.length cap ∧ (l = [] ∨ ∃ g, A = some ⟨g, 0, none⟩ ∧ B ≤ g ∧ g < W.heap.size ∧ ∀ i (h : i < l.length), W.cell? ⟨g, i * 2, none⟩ = some (.int .i64 (l[i].1 : Int)) ∧ W.cell? ⟨g, i * 2 + 1, none⟩ = some (.int .i64 (l[i].2 : Int)))
theorem MvAt.below {W W' : World} {B : Nat} {v : Value} {l : List Mv} (h : MvAt W B v l) (hb : Below W.heap.size W W') : MvAt W' B v l := by
  obtain ⟨A, cap, hv, h⟩ := h.out
  refine ⟨A, cap, hv, ?_⟩
  rcases h with h | ⟨g, hA, hB, hg, hx⟩
  · exact .inl h
  · exact .inr ⟨g, hA, hB, Nat.lt_of_lt_of_le hg hb.size, fun i hi => ⟨(hb.cell (p := ⟨g, i * 2, none⟩) hg).trans (hx i hi).1, (hb.cell (p := ⟨g, i * 2 + 1, none⟩) hg).trans (hx i hi).2⟩⟩
theorem OwnM.reads {W : World} {B : Nat} {v : Value} {l : List Mv} (ho : OwnM W B v l) : MvAt W B v l := by
  obtain ⟨hx, ⟨h0, h1⟩ | ⟨g, cap, cur, h0, hb, hg, hn, hc, hs, ht⟩⟩ := ho
  · exact ⟨none, 0, by rw [h0, h1], .inl (List.length_eq_zero_iff.1 h1)⟩
  · refine ⟨_, cap, h0, .inr ⟨g, rfl, hb, ?_, ?_⟩⟩
    · rcases Nat.lt_or_ge g W.heap.size with h | h
      · exact h
      · rw [Array.getElem?_eq_none h] at hg; cases hg
    · intro i hi
      have key : ∀ j, j < 2 → W.cell? ⟨g, i * 2 + j, none⟩ = (mvC l[i])[j]? := by
        intro j hj
        have e := flatM_get l i j hi hj
        rw [← ht, List.getElem?_take] at e
        split at e
        · simp only [World.cell?, hg]
          simpa using e
        · match j, hj with
          | 0, _ | 1, _ => cases e
      have k0 := key 0 (by omega)
      have k1 := key 1 (by omega)
      exact ⟨k0, k1⟩
theorem MvAt.at {W : World} {B : Nat} {v : Value} {l : List Mv} (h : MvAt W B v l) (hl : l ≠ []) : ∃ g cap, v = .slice (some ⟨g, 0, none⟩) l.length cap ∧ B ≤ g ∧ g < W.heap.size ∧ ∀ i (h : i < l.length), W.cell? ⟨g, i * 2, none⟩ = some (.int .i64 (l[i].1 : Int)) ∧ W.cell? ⟨g, i * 2 + 1, none⟩ = some (.int .i64 (l[i].2 : Int)) := by
  obtain ⟨A, cap, hv, h1 | ⟨g, rfl, h2⟩⟩ := h.out
  · exact absurd h1 hl
  · exact ⟨g, cap, hv, h2⟩
theorem MvAt.form {W : World} {B : Nat} {v : Value} {l : List Mv} (h : MvAt W B v l) : ∃ A cap, v = .slice A l.length cap := by
  obtain ⟨A, cap, hv, _⟩ := h.out
  exact ⟨A, cap, hv⟩
/-- A position's box. -/
structure BoxP (W : World) (b : Nat) (p : Pos) : Prop where
  c0 : W.cell? ⟨b, 0, none⟩ = some (.string p.cells)
  c1 : W.cell? ⟨b, 1, none⟩ = some (.int .i64 p.side)
  c2 : W.cell? ⟨b, 2, none⟩ = some (.int .i64 p.clock)
  c3 : W.cell? ⟨b, 3, none⟩ = some (.int .i64 p.full)
theorem BoxP.below {W W' : World} {b : Nat} {p : Pos} (h : BoxP W b p) (hb : Below W.heap.size W W') : BoxP W' b p := ⟨below_cell hb _ _ _ h.c0, below_cell hb _ _ _ h.c1, below_cell hb _ _ _ h.c2, below_cell hb _ _ _ h.c3⟩
theorem BoxP.drew {W : World} {b : Nat} {p : Pos} (h : BoxP W b p) : BoxP W.drew b p := ⟨h.c0, h.c1, h.c2, h.c3⟩
theorem BoxP.new (w : World) (p : Pos) : BoxP (w.alloc (.cells #[.string p.cells, .int .i64 p.side, .int .i64 p.clock, .int .i64 p.full] 38)) w.heap.size p := by
  constructor <;> simp [World.cell?_alloc_at]
/-- Since an elder world, what lay there lies there still. -/
theorem below_go {w W W' : World} (h : Below w.heap.size w W) (hb : Below W.heap.size W W') : Below w.heap.size w W' := h.trans (hb.mono h.size)
theorem below_new {w W : World} (h : Below w.heap.size w W) (o : Obj) : Below w.heap.size w (W.alloc o) := below_go h (below_alloc (Below.refl _ _) _)
theorem below_drews {w W : World} (h : Below w.heap.size w W) (n : Nat) : Below w.heap.size w (W.drewN n) := pw_below_drewN h n
end Go.Proofs.Ytcanbidenhcohaa.K

/- The pseudo laws' live, walked. -/
namespace Go.Proofs.Ytcanbidenhcohaa.K
open Go.RowKit Go.Lib Go.Proofs.YtcanbidenhcohaaW.PrintWords Go.Proofs.Ytcanbidenhcohaa.Sp
set_option linter.unusedVariables false
set_option linter.unusedSimpArgs false
set_option maxRecDepth 100000 in
set_option maxHeartbeats 4000000 in
theorem live_c (w : World) : Calls Try.prog 30 #[] w fun e w' => e = .returned (.bool true) ∧ Below w.heap.size w w' := by
  have HM := Aside0.mk (fun W => moves_c startP W)
  have HC := Aside0.mk (fun W => captures_c startP W)
  obtain ⟨m1, m2, m3⟩ := start_moves
  generalize gathP startP (fun _ => true) = ml at *
  generalize gathP startP (fun x => x != 46) = cl at *
  obtain ⟨a1, a2, a3, a4, a5, a6⟩ := start_apply
  have A1 := Aside0.mk (fun W => apply_c startP ⟨19, 82⟩ W)
  have A2 := Aside0.mk (fun W => apply_c startP ⟨0, 90⟩ W)
  have A3 := Aside0.mk (fun W => apply_c zeroP ⟨0, 0⟩ W)
  unfold ApplyIs at A1 A2 A3
  generalize applyP startP ⟨19, 82⟩ = q1 at *
  generalize applyP startP ⟨0, 90⟩ = q2 at *
  generalize applyP zeroP ⟨0, 0⟩ = q3 at *
  obtain ⟨⟨b0, b1, b2, b3⟩, b4, b5⟩ := q1
  obtain ⟨⟨c0, c1, c2, c3⟩, c4, c5⟩ := q2
  obtain ⟨⟨d0, d1, d2, d3⟩, d4, d5⟩ := q3
  simp only at a1 a2 a3 a5 a6
  simp only [Prod.mk.injEq] at a4
  obtain ⟨rfl, rfl⟩ := a4
  subst a1 a2 a3 a5 a6
  have hu := Try.underlying38
  have hu2 := Try.underlying42
  have HM1 := Aside0.mk m1
  have HM2 := Aside0.mk (And.intro m2 m3)
  clear m1 m2 m3
  go_enter Try.func30, Try.ntmps30
  go_wp2_with fail
  have HB0 := Aside0.mk (BoxP.new w startP)
  have HW0 := Aside0.mk (below_new (Below.refl w.heap.size w) (.cells #[.string startP.cells, .int .i64 startP.side, .int .i64 startP.clock, .int .i64 startP.full] 38))
  refine (HM.out _).mono ?_
  rintro e w1 ⟨v1, rfl, h1, hb⟩
  have HB1 := Aside0.mk (HB0.out.below hb)
  have HW1 := Aside0.mk (below_go HW0.out hb)
  have HV1 := Aside0.mk h1.reads
  clear h1 hb HB0 HW0
  obtain ⟨e0, e1, e2, e3⟩ := HB1.out
  go_wp2_with fail
  refine (HC.out _).mono ?_
  rintro e w2 ⟨v2, rfl, h2, hb⟩
  have HB2 := Aside0.mk (HB1.out.below hb)
  have HW2 := Aside0.mk (below_go HW1.out hb)
  have HV1' := Aside0.mk (HV1.out.below hb)
  have HV2 := Aside0.mk h2.reads
  clear e0 e1 e2 e3 HB1 HV1 HW1 h2 hb
  obtain ⟨e0, e1, e2, e3⟩ := HB2.out
  go_wp2_with fail
  refine (A1.out _).mono ?_
  rintro e w3 ⟨rfl, hb⟩
  have HB3 := Aside0.mk (HB2.out.below hb)
  have HW3 := Aside0.mk (below_go HW2.out hb)
  have HV1 := Aside0.mk (HV1'.out.below hb)
  have HV2' := Aside0.mk (HV2.out.below hb)
  clear e0 e1 e2 e3 HB2 HV1' HV2 HW2 hb
  obtain ⟨e0, e1, e2, e3⟩ := HB3.out
  have hl3 : w.heap.size < w3.heap.size := World.block_lt_of_cell? _ _ e0
  go_wp2_with fail
  refine (A2.out _).mono ?_
  rintro e w4 ⟨rfl, hb⟩
  have HB4 := Aside0.mk ((HB3.out.below (below_alloc (Below.refl _ _) _)).below hb)
  have HW4 := Aside0.mk (below_go (below_new HW3.out _) hb)
  have HV1' := Aside0.mk ((HV1.out.below (below_alloc (Below.refl _ _) _)).below hb)
  have HV2 := Aside0.mk ((HV2'.out.below (below_alloc (Below.refl _ _) _)).below hb)
  have HQ := Aside0.mk ((BoxP.new w3 ⟨b0, 1, 0, 1⟩).below hb)
  clear e0 e1 e2 e3 HB3 HV1 HV2' HW3 hb hl3
  generalize w3.heap.size = bq at *
  obtain ⟨e0, e1, e2, e3⟩ := HB4.out
  have hl3 : w.heap.size < w4.heap.size := World.block_lt_of_cell? _ _ e0
  go_wp2_with fail
  refine (A3.out _).mono ?_
  rintro e w5 ⟨rfl, hb⟩
  have HW5 := Aside0.mk (below_go (below_new HW4.out _) hb)
  have HV1 := ((HV1'.out.below (below_alloc (Below.refl _ _) _)).below hb)
  have HV2' := ((HV2.out.below (below_alloc (Below.refl _ _) _)).below hb)
  have HQ' := ((HQ.out.below (below_alloc (Below.refl _ _) _)).below hb)
  clear e0 e1 e2 e3 HB4 HV1' HV2 HW4 hb hl3 HQ
  obtain ⟨g, cap, rfl, _, hlg, hml⟩ := HV1.at (by intro h; have := HM1.out; rw [h] at this; simp at this)
  obtain ⟨x0, x1⟩ := hml 0 (by rw [HM1.out]; omega)
  have z0 : ml[0]'(by rw [HM1.out]; omega) = (0, 9) := by
    have := HM2.out.1
    rw [List.getElem?_eq_getElem (by rw [HM1.out]; omega)] at this
    exact Option.some.inj this
  rw [z0] at x0 x1
  obtain ⟨A2, cap2, rfl⟩ := HV2'.form
  rw [HM1.out, HM2.out.2]
  clear hml HV1 HV2' z0
  obtain ⟨f0, f1, f2, f3⟩ := HQ'
  have hl3 : bq < w5.heap.size := World.block_lt_of_cell? _ _ f0
  go_wp2_with fail
  go_ret
  exact ⟨rfl, below_new HW5.out _⟩
end Go.Proofs.Ytcanbidenhcohaa.K

/- PseudoCaptures: the walk. -/
namespace Go.Proofs.Ytcanbidenhcohaa.K
open Go.RowKit Go.Lib Go.Proofs.YtcanbidenhcohaaW.PrintWords Go.Proofs.Ytcanbidenhcohaa.Sp
set_option linter.unusedVariables false
set_option linter.unusedSimpArgs false
attribute [local go_sem] cel_get   -- for this text's walks alone
theorem checkP_board {p : Pos} (h : checkP p = 0) : argOk p = true := by
  unfold checkP at h
  cases ha : argOk p
  · rw [ha] at h; simp at h
  · rfl
theorem gath_cap (p : Pos) : gathP p (fun x => x != 46) = (gathP p (fun _ => true)).filter (fun m => cel p.cells m.2 != 46) := by
  unfold gathP
  split
  · unfold gathM
    rw [List.filter_flatMap]
    congr 1
    funext a
    unfold fromM
    split
    · simp [List.filter_map, List.filter_filter, Function.comp_def]
    · rfl
  · rfl
theorem gath_mem {p : Pos} {q : Nat → Bool} {m : Mv} (h : m ∈ gathP p q) : checkP p = 0 ∧ m.1 < 90 ∧ m.2 < 90 ∧ sideN (cel p.cells m.1) = p.side ∧ fastN (cel p.cells) m.1 m.2 = true ∧ q (cel p.cells m.2) = true := by
  unfold gathP at h
  split at h
  · rename_i hc
    unfold gathM at h
    obtain ⟨a, ha, hm⟩ := List.mem_flatMap.1 h
    unfold fromM at hm
    split at hm
    · rename_i hs
      obtain ⟨b, hb, rfl⟩ := List.mem_map.1 hm
      obtain ⟨hb1, hb2⟩ := List.mem_filter.1 hb
      have hb3 : b ∈ (List.range 90).filter (fun b => fastN (cel p.cells) a b) := hb1
      exact ⟨hc, List.mem_range.1 ha, allN_lt _ _ b hb1, hs, (List.mem_filter.1 hb3).2, hb2⟩
    · simp at hm
  · simp at h
theorem gath_len (p : Pos) (q : Nat → Bool) : (gathP p q).length ≤ 8100 := by
  unfold gathP
  split
  · exact gathM_len _ _ _ _
  · simp
theorem take_filter {α : Type} (l : List α) (f : α → Bool) (i : Nat) (h : i < l.length) : ((l.take (i + 1)).filter f) = (l.take i).filter f ++ (if f l[i] = true then [l[i]] else []) := by
  rw [List.take_succ_eq_append_getElem h, List.filter_append]
  congr 1
  split <;> simp_all
theorem filter_at {α : Type} (l : List α) (f : α → Bool) (i : Nat) (h : i < l.length) (hf : f l[i] = true) : (l.filter f)[((l.take i).filter f).length]? = some l[i] := by
  have e : l = l.take i ++ l[i] :: l.drop (i + 1) := by rw [← List.drop_eq_getElem_cons h, List.take_append_drop]
  have e2 : l.filter f = (l.take i).filter f ++ l[i] :: (l.drop (i + 1)).filter f := by
    conv => lhs; rw [e]
    rw [List.filter_append, List.filter_cons_of_pos hf]
  rw [e2]
  simp
/-- Two rows of moves beside a position's box. -/
structure TwoAt (w0 W : World) (p : Pos) (v1 v2 : Value) (l k : List Mv) : Prop where
  box : BoxP W w0.heap.size p
  m1 : MvAt W w0.heap.size v1 l
  m2 : MvAt W w0.heap.size v2 k
  bel : Below w0.heap.size w0 W
theorem TwoAt.below {w0 W W' : World} {p : Pos} {v1 v2 : Value} {l k : List Mv} (h : TwoAt w0 W p v1 v2 l k) (hb : Below W.heap.size W W') : TwoAt w0 W' p v1 v2 l k :=
  ⟨h.box.below hb, h.m1.below hb, h.m2.below hb, below_go h.bel hb⟩
theorem MvAt.lower {W : World} {B B' : Nat} {v : Value} {l : List Mv} (h : MvAt W B v l) (hb : B' ≤ B) : MvAt W B' v l := by
  obtain ⟨A, cap, hv, h⟩ := h.out
  refine ⟨A, cap, hv, ?_⟩
  rcases h with h | ⟨g, hA, hB, h⟩
  · exact .inl h
  · exact .inr ⟨g, hA, Nat.le_trans hb hB, h⟩
set_option maxRecDepth 100000 in
set_option maxHeartbeats 4000000 in
theorem capturesLaw (w : World) (p : Pos) (hmx : p.cells.size ≤ maxLen) : Calls Try.prog 12 #[posV p] w fun e w' => e = .returned (.bool true) ∧ Below w.heap.size w w' := by
  have HLV := Aside0.mk (fun W => live_c W)
  have hu := Try.underlying38
  have hu2 := Try.underlying42
  by_cases h200 : p.cells.size > 200
  · have h1 : (200 : Int) < (p.cells.size : Int) := by omega
    have HW0 := Aside0.mk (below_new (Below.refl w.heap.size w) (.cells #[.string p.cells, .int .i64 p.side, .int .i64 p.clock, .int .i64 p.full] 38))
    clear h200 hmx
    go_enter Try.func12, Try.ntmps12
    go_wp2_with (go_at_call 30; refine (HLV.out _).mono ?_; rintro e w1 ⟨rfl, hb⟩; have HW1 := Aside0.mk (below_go HW0.out hb); clear hb)
    go_ret
    exact ⟨rfl, HW1.out⟩
  have h1 : (p.cells.size : Int) ≤ 200 := by omega
  clear h200 hmx
  have HM := Aside0.mk (fun W => moves_c p W)
  have HC := Aside0.mk (fun W => captures_c p W)
  have HFIL := Aside0.mk (gath_cap p)
  have HMEM := Aside0.mk (fun m (h : m ∈ gathP p (fun _ => true)) => gath_mem h)
  have HLL := Aside0.mk (gath_len p (fun _ => true))
  generalize gathP p (fun _ => true) = l at *
  generalize gathP p (fun x => x != 46) = k at *
  go_enter Try.func12, Try.ntmps12
  go_wp2_with fail
  have HB0 := Aside0.mk (BoxP.new w p)
  have HW0 := Aside0.mk (below_new (Below.refl w.heap.size w) (.cells #[.string p.cells, .int .i64 p.side, .int .i64 p.clock, .int .i64 p.full] 38))
  refine (HM.out _).mono ?_
  rintro e w1 ⟨v1, rfl, h1, hb⟩
  have HB1 := Aside0.mk (HB0.out.below hb)
  have HW1 := Aside0.mk (below_go HW0.out hb)
  have HV1 := Aside0.mk (h1.reads.lower HW0.out.size)
  clear h1 hb HB0
  obtain ⟨e0, e1, e2, e3⟩ := HB1.out
  go_wp2_with fail
  refine (HC.out _).mono ?_
  rintro e w2 ⟨v2, rfl, h2, hb⟩
  have HT := Aside0.mk (show TwoAt w w2 p v1 v2 l k from ⟨HB1.out.below hb, HV1.out.below hb, h2.reads.lower HW1.out.size, below_go HW1.out hb⟩)
  clear h2 hb HB1 HV1 e0 e1 e2 e3 HW1 HW0
  obtain ⟨A1, cap1, rfl⟩ := HT.out.m1.form
  obtain ⟨A2, cap2, rfl⟩ := HT.out.m2.form
  go_wp2_with fail
  have HX := HT
  clear HT
  go_loopg [5, 6] l.length (fun gg s5 s6 wr => ∃ i : Nat, s5 = .int .i64 (((l.take i).filter (fun m => cel p.cells m.2 != 46)).length : Int) ∧ s6 = .int .i64 i ∧ i + gg = l.length ∧ Aside0 (TwoAt w wr p (.slice A1 l.length cap1) (.slice A2 k.length cap2) l k))
  case atStart => exact ⟨0, rfl, rfl, by omega, HX⟩
  case round =>
    clear HX
    obtain ⟨i, rfl, rfl, hi, HX⟩ := hrel
    have HNI := Aside0.mk (show ((l.take i).filter (fun m => cel p.cells m.2 != 46)).length ≤ 8100 from Nat.le_trans (List.length_filter_le _ _) (Nat.le_trans (by rw [List.length_take]; omega) HLL.out))
    cases gk with
    | zero =>
      have hn : ¬ ((i : Int) < (l.length : Int)) := by omega
      have HI := Aside0.mk (show i = l.length by omega)
      have hk : (((l.take i).filter (fun m => cel p.cells m.2 != 46)).length : Int) = (k.length : Int) := by rw [HFIL.out, HI.out, List.take_length]
      rw [hk]
      clear hi hk
      go_wp2_with (go_at_call 30; refine (HLV.out _).mono ?_; rintro e w5 ⟨rfl, hb⟩; have HW5 := Aside0.mk (below_go HX.out.bel hb); clear hb)
      go_ret
      exact ⟨rfl, HW5.out⟩
    | succ g =>
      have hn : (i : Int) < (l.length : Int) := by omega
      have hil : i < l.length := by omega
      have hib : (i : Int) ≤ 8100 := by have := HLL.out; omega
      have HI := Aside0.mk (show i + 1 + g = l.length by omega)
      have HTF := Aside0.mk (take_filter l (fun m => cel p.cells m.2 != 46) i hil)
      have HFA := Aside0.mk (fun (h : (fun m : Mv => cel p.cells m.2 != 46) l[i] = true) => filter_at l (fun m => cel p.cells m.2 != 46) i hil h)
      rw [← HFIL.out] at HFA
      obtain ⟨hc0, ha90, hb90, _⟩ := HMEM.out _ (List.getElem_mem hil)
      have hs90 := board_size (argOk_yes (checkP_board hc0)).1
      have hsz : ((p.cells.size : Int) != 90) = false := by rw [hs90]; rfl
      have hszb : (p.cells.size : Int) = 90 := by omega
      clear hc0
      obtain ⟨g1, cap1', hA1, _, hg1, hx1⟩ := HX.out.m1.at (fun h => by rw [h] at hil; simp at hil)
      simp only [Value.slice.injEq, true_and] at hA1
      obtain ⟨rfl, rfl⟩ := hA1
      obtain ⟨x0, x1⟩ := hx1 i hil
      clear hx1
      obtain ⟨e0, e1, e2, e3⟩ := HX.out.box
      clear e1 e2 e3 hi
      have HLI := Aside0.mk (rfl : l[i] = l[i])
      generalize ((l.take i).filter (fun m => cel p.cells m.2 != 46)) = fl at *
      generalize hli : l[i] = m at *
      obtain ⟨ma, mb⟩ := m
      simp only at ha90 hb90 x0 x1
      have hm1 : (mb : Int) < 90 := by omega
      have hm0 : (ma : Int) < 90 := by omega
      have hm2 : (mb : Int) < (p.cells.size : Int) := by omega
      clear hs90 hszb
      clear ha90 hb90
      have q := bne46 (cel p.cells mb)
      cases hc : (cel p.cells mb != 46)
      case false =>
        rw [hc] at q
        have HC0 := Aside0.mk hc
        clear hc
        go_wp2_with fail
        go_quiet (fail)
        go_wp2_with fail
        go_roundg g
        case measure => omega
        case rel =>
          refine ⟨i + 1, ?_, rfl, by have := HI.out; omega, ⟨HX.out.below (pw_below_drewN (Below.refl _ _) _)⟩⟩
          rw [HTF.out, if_neg (by show ¬ (cel p.cells mb != 46) = true; rw [HC0.out]; simp), List.append_nil]
      case true =>
        have hk := HFA.out hc
        have hkl : fl.length < k.length := by
          rcases Nat.lt_or_ge fl.length k.length with h | h
          · exact h
          · rw [List.getElem?_eq_none h] at hk; cases hk
        rw [List.getElem?_eq_getElem hkl] at hk
        have hk := Option.some.inj hk
        obtain ⟨g2, cap2', hA2, _, hg2, hx2⟩ := HX.out.m2.at (fun h => by rw [h] at hkl; simp at hkl)
        simp only [Value.slice.injEq, true_and] at hA2
        obtain ⟨rfl, rfl⟩ := hA2
        obtain ⟨y0, y1⟩ := hx2 _ hkl
        rw [hk] at y0 y1
        simp only at y0 y1
        have hkn : (fl.length : Int) < (k.length : Int) := by omega
        clear hx2 hk
        rw [hc] at q
        have HC0 := Aside0.mk hc
        have hni : (fl.length : Int) ≤ 8100 := by have := HNI.out; omega
        have HFL := Aside0.mk (show (((fl ++ [((ma : Nat), (mb : Nat))]).length : Nat) : Int) = (fl.length : Int) + 1 by simp)
        generalize fl.length = n at *
        clear hc
        go_wp2_with fail
        go_quiet (fail)
        go_wp2_with fail
        go_quiet (fail)
        go_wp2_with fail
        go_roundg g
        case measure => omega
        case rel =>
          refine ⟨i + 1, ?_, rfl, by have := HI.out; omega, ⟨HX.out.below (pw_below_drewN (Below.refl _ _) _)⟩⟩
          rw [HTF.out, if_pos (show (cel p.cells mb != 46) = true from HC0.out), HFL.out]
end Go.Proofs.Ytcanbidenhcohaa.K

/- Flat types: what a value, and a slice's elements, of structs of numbers, bools and texts hold. No program in sight. -/
namespace Go.Proofs.Ytcanbidenhcohaa.P
open Go Go.ChangeShapes Go.WideShapes
/-- The kind of one cell. -/
inductive FK where
  | int (k : IntKind)
  | bool
  | str
def FK.has : FK → Value → Prop
  | .int k, c => ∃ n, c = .int k n ∧ (Lit.int k n).wf = true
  | .bool, c => ∃ b, c = .bool b
  | .str, c => ∃ s : ByteArray, c = .string s ∧ s.size ≤ maxLen
/-- The kinds of a struct's cells, given those of its fields. -/
def flatFs (P : Program) (g : TypeId → Option (List FK)) : List Field → Nat → Option (List FK)
  | [], _ => some []
  | f :: r, off => (g f.type).bind fun a => if f.offset = off ∧ P.cellsOf f.type = a.length then (flatFs P g r (off + a.length)).map (a ++ ·) else none
def flatT (P : Program) : Nat → TypeId → Option (List FK)
  | 0, _ => none
  | d + 1, t => match P.underlying t with
    | some .bool => some [.bool]
    | some (.int k) => some [.int k]
    | some .string => some [.str]
    | some (.struct fs) => (flatFs P (flatT P d) fs.toList 0).bind fun ks => if P.cellsOf t = ks.length then some ks else none
    | _ => none
section
variable {H : Type} {enc : TypeId × Value → H} {P : Program} {w : World} {base : Nat} {spare : Nat → Bool} {held : Bool}
theorem flatFs_cells {g : TypeId → Option (List FK)} {n : Nat} {cs : List Value}
    (ih : ∀ t ks, g t = some ks → ∀ cs x, DataW.trod enc P w base spare held n t cs = some x → cs.length = ks.length ∧ ∀ (i : Nat) (k : FK) (c : Value), ks[i]? = some k → cs[i]? = some c → k.has c) :
    ∀ (l : List Field) (off : Nat) (ks : List FK), flatFs P g l off = some ks → (∀ f ∈ l, ∃ y, DataW.trod enc P w base spare held n f.type ((cs.drop f.offset).take (P.cellsOf f.type)) = some y) →
      ∀ (i : Nat) (k : FK) (c : Value), ks[i]? = some k → cs[off + i]? = some c → k.has c
  | [], off, ks, h, _, i, k, c, hk, _ => by
    simp only [flatFs, Option.some.injEq] at h
    subst h
    simp at hk
  | f :: r, off, ks, h, hy, i, k, c, hk, hc => by
    simp only [flatFs, Option.bind_eq_some_iff] at h
    obtain ⟨a, ha, h⟩ := h
    split at h
    · rename_i hh
      obtain ⟨h1, h2⟩ := hh
      simp only [Option.map_eq_some_iff] at h
      obtain ⟨b, hb, rfl⟩ := h
      obtain ⟨y, hy0⟩ := hy f (by simp)
      obtain ⟨hl, hh⟩ := ih _ _ ha _ _ hy0
      by_cases hi : i < a.length
      · rw [List.getElem?_append_left hi] at hk
        refine hh i k c hk ?_
        rw [List.getElem?_take, List.getElem?_drop, h1, h2, if_pos hi]
        exact hc
      · rw [List.getElem?_append_right (by omega)] at hk
        refine flatFs_cells ih r (off + a.length) b hb (fun f hf => hy f (by simp [hf])) (i - a.length) k c hk ?_
        rw [show off + a.length + (i - a.length) = off + i by omega]
        exact hc
    · cases h
theorem flat_cells : ∀ (d : Nat) (t : TypeId) (ks : List FK), flatT P d t = some ks → ∀ (n : Nat) (cs : List Value) (x : DataW H × List MemPlace), DataW.trod enc P w base spare held n t cs = some x →
    cs.length = ks.length ∧ ∀ (i : Nat) (k : FK) (c : Value), ks[i]? = some k → cs[i]? = some c → k.has c
  | 0, _, _, h => by simp [flatT] at h
  | d + 1, t, ks, h => by
    intro n cs x hx
    unfold flatT at h
    split at h
    · rename_i ht
      obtain rfl := Option.some.inj h
      obtain ⟨b, rfl, rfl⟩ := DataW.trod_bool ht hx
      refine ⟨rfl, fun i k c hk hc => ?_⟩
      match i with
      | 0 => simp at hk hc; subst hk hc; exact ⟨b, rfl⟩
      | i + 1 => simp at hk
    · rename_i k ht
      obtain rfl := Option.some.inj h
      obtain ⟨m, rfl, rfl, hw⟩ := DataW.trod_int ht hx
      refine ⟨rfl, fun i k c hk hc => ?_⟩
      match i with
      | 0 => simp at hk hc; subst hk hc; exact ⟨m, rfl, hw⟩
      | i + 1 => simp at hk
    · rename_i ht
      obtain rfl := Option.some.inj h
      obtain ⟨s, rfl, rfl, hs⟩ := DataW.trod_string ht hx
      refine ⟨rfl, fun i k c hk hc => ?_⟩
      match i with
      | 0 => simp at hk hc; subst hk hc; exact ⟨s, rfl, hs⟩
      | i + 1 => simp at hk
    · rename_i fs ht
      simp only [Option.bind_eq_some_iff] at h
      obtain ⟨ks', hks, h⟩ := h
      split at h
      · rename_i hsz
        obtain rfl := Option.some.inj h
        obtain ⟨xs, m, rfl, rfl, hlen, hxl, hf⟩ := DataW.trod_struct ht hx
        refine ⟨hlen.trans hsz, ?_⟩
        have := flatFs_cells (enc := enc) (w := w) (base := base) (spare := spare) (held := held) (n := m) (cs := cs) (fun t ks hg => flat_cells d t ks hg m) fs.toList 0 ks' hks (by
          intro f hfm
          obtain ⟨i, hi⟩ := List.getElem?_of_mem hfm
          have hfi : fs[i]? = some f := by simpa using hi
          have h1 := hf i f hfi
          have hlt : i < xs.length := by
            rw [hxl]
            rcases Nat.lt_or_ge i fs.size with h | h
            · exact h
            · simp [Array.getElem?_eq_none h] at hfi
          exact ⟨xs[i], h1.trans (List.getElem?_eq_getElem hlt)⟩)
        intro i k c hk hc
        exact this i k c hk (by simpa using hc)
      · cases h
    · cases h
/-- A slice of flat elements: its cells. -/
theorem flat_slice {t e : TypeId} {d : Nat} {ks : List FK} {n : Nat} {a : Option Addr} {len cap : Nat} {x : DataW H × List MemPlace} (ht : P.underlying t = some (.slice e)) (he : flatT P d e = some ks) (hc : P.cellsOf e = ks.length)
    (h : DataW.trod enc P w base spare held n t [.slice a len cap] = some x) :
    (a = none ∧ len = 0 ∧ cap = 0) ∨ ∃ ad, a = some ad ∧ len ≤ cap ∧ cap ≤ maxLen ∧ ∀ i, i < len → ∀ (j : Nat) (k : FK), ks[j]? = some k → ∃ c, w.cell? (ad.add (i * ks.length + j)) = some c ∧ k.has c := by
  rcases Deep.open_slice ht h with ⟨h0, _⟩ | ⟨ad, len', cap', m, n', D, Pl, h0, hb, hl, hm, hmm, _, hx⟩
  · simp at h0; exact .inl h0
  · simp only [List.cons.injEq, Value.slice.injEq, and_true] at h0
    obtain ⟨rfl, rfl, rfl⟩ := h0
    refine .inr ⟨ad, rfl, hl, hm, fun i hi j k hj => ?_⟩
    have hlm : len ≤ m := by rw [hmm]; split <;> omega
    obtain ⟨cs, h1, h2⟩ := hx i (by omega)
    obtain ⟨_, hlen, hcell⟩ := World.cells?_some h1
    obtain ⟨hcl, hch⟩ := flat_cells d e ks he _ _ _ h2
    have hjk : j < ks.length := by
      rcases Nat.lt_or_ge j ks.length with h | h
      · exact h
      · simp [List.getElem?_eq_none h] at hj
    have hjc : j < cs.length := by omega
    have := hcell j (by omega)
    rw [Deep.add_add, hc, List.getElem?_eq_getElem hjc] at this
    exact ⟨_, this, hch j k _ hj (List.getElem?_eq_getElem hjc)⟩
end
theorem list_cons {α : Type} {l : List α} {n : Nat} (h : l.length = n + 1) : ∃ x r, l = x :: r ∧ r.length = n := by
  cases l with
  | nil => simp at h
  | cons x r => exact ⟨x, r, rfl, by simpa using h⟩
theorem list_nil {α : Type} {l : List α} (h : l.length = 0) : l = [] := List.length_eq_zero_iff.1 h
theorem wf_u64 {n : Int} (h : (Lit.int .u64 n).wf = true) : 0 ≤ n := by
  simp only [Lit.wf, Bool.and_eq_true, decide_eq_true_eq] at h
  have h1 := h.1
  simp [IntKind.min, IntKind.signed] at h1
  exact h1
theorem wf_i64 {n : Int} (h : (Lit.int .i64 n).wf = true) : -9223372036854775808 ≤ n ∧ n ≤ 9223372036854775807 := by
  simp only [Lit.wf, Bool.and_eq_true, decide_eq_true_eq] at h
  obtain ⟨h1, h2⟩ := h
  simp [IntKind.min, IntKind.max, IntKind.signed, IntKind.bits] at h1 h2
  exact ⟨h1, h2⟩
theorem wf_u8 {n : Int} (h : (Lit.int .u8 n).wf = true) : 0 ≤ n ∧ n ≤ 255 := by
  simp only [Lit.wf, Bool.and_eq_true, decide_eq_true_eq] at h
  obtain ⟨h1, h2⟩ := h
  simp [IntKind.min, IntKind.max, IntKind.signed, IntKind.bits] at h1 h2
  exact ⟨h1, h2⟩
end Go.Proofs.Ytcanbidenhcohaa.P
