/- Walks and plain laws that several statements lean on, joined: no statement of the seat is proved here. -/
import Derived.Deep.Cut
import Derived.Test.YtafmapadkpjliaaGreatDoorB14

/- search's reference: Best. -/
namespace Go.Proofs.YtafmapadkpjliaaGreatDoor.K
open Go.RowKit Go.Lib Go.Proofs.YtafmapadkpjliaaGreatDoorW.PrintWords Go.Proofs.YtafmapadkpjliaaGreatDoorW.PrintLast Go.Proofs.YtafmapadkpjliaaGreatDoorW.PrintMore Go.Proofs.YtafmapadkpjliaaGreatDoor.Sp
set_option linter.unusedVariables false
set_option linter.unusedSimpArgs false
theorem begE_of_nil {p : Pos} {D least : Int} {M : List Mvi} (h : begE p D least [] ≠ 0) : begE p D least M = begE p D least [] := by
  by_cases hw : wellS p = 0
  · by_cases hd : D < least ∨ 64 < D
    · rw [begE_arg hw hd, begE_arg hw hd]
    · exact absurd (begE_ok hw hd (fun j hj => absurd hj (by simp))) h
  · rw [begE_well hw, begE_well hw]
theorem begE_nil_of {p : Pos} {D least : Int} {M : List Mvi} (h : begE p D least M = 0) : begE p D least [] = 0 := by
  obtain ⟨hw, h1, h2⟩ := begE_zero h
  exact begE_ok hw (by omega) (fun j hj => absurd hj (by simp))
/-- Is a move to be looked at? -/
def selB (M : List Mvi) (m : Mv) : Bool := M.isEmpty || hasI M (mviOf m)
theorem begL_sel (p : Pos) (M : List Mvi) : begL p M = (legalL p).filter (selB M) := by
  unfold begL
  by_cases h : M = []
  · rw [if_pos h, h]
    exact (List.filter_eq_self.2 (fun m _ => rfl)).symm
  · rw [if_neg h]
    refine List.filter_congr (fun m _ => ?_)
    unfold selB
    rw [show M.isEmpty = false by simpa using h]
    rfl
theorem resT.more {g : Mv → Int} {o : Option (Mv × Int)} {D a b s D' : Int} {f : Bool} (h : resT o D a b s D' f) (m : Mv) (hlt : f = false ∨ s < g m) : resT (fbF g o m) D m.1 m.2 (g m) D true := by
  cases o with
  | none => exact ⟨rfl, rfl, rfl, rfl, rfl⟩
  | some x =>
    obtain ⟨m0, v⟩ := x
    obtain ⟨_, _, h3, _, h5⟩ := h
    have : v < g m := by
      rcases hlt with h | h
      · rw [h5] at h; cases h
      · omega
    show resT (if v < g m then some (m, g m) else some (m0, v)) _ _ _ _ _ _
    rw [if_pos this]
    exact ⟨rfl, rfl, rfl, rfl, rfl⟩
theorem resT.same {g : Mv → Int} {o : Option (Mv × Int)} {D a b s D' : Int} {f : Bool} (h : resT o D a b s D' f) (m : Mv) (hf : f = true) (hlt : ¬ s < g m) : resT (fbF g o m) D a b s D' f := by
  cases o with
  | none => obtain ⟨_, _, _, _, h5⟩ := h; rw [hf] at h5; cases h5
  | some x =>
    obtain ⟨m0, v⟩ := x
    have h0 := h
    obtain ⟨_, _, h3, _, h5⟩ := h
    have : ¬ v < g m := by omega
    show resT (if v < g m then some (m, g m) else some (m0, v)) _ _ _ _ _ _
    rw [if_neg this]
    exact h0
theorem sel_take_yes (l : List Mv) (sel : Mv → Bool) (i : Nat) (hi : i < l.length) (h : sel l[i] = true) : (l.take (i + 1)).filter sel = (l.take i).filter sel ++ [l[i]] := by
  rw [List.take_succ_eq_append_getElem hi, List.filter_append]
  simp [h]
theorem sel_take_no (l : List Mv) (sel : Mv → Bool) (i : Nat) (hi : i < l.length) (h : sel l[i] = false) : (l.take (i + 1)).filter sel = (l.take i).filter sel := by
  rw [List.take_succ_eq_append_getElem hi, List.filter_append]
  simp [h]
/-- The reference's Best: its boxes, the moves, the best one. -/
structure RbAt (W0 W : World) (p : Pos) (v : Value) (l : List Mv) (g : Nat) (vM : Value) (M : List Mvi) (rb : Nat) (a b s D : Int) (f : Bool) : Prop where
  ra : RowAt W0 W p v l
  rm : RowI W g vM M
  ans : BoxR W (W0.heap.size + 1) 0 0 0 0 false
  box : BoxR W rb a b s D f
section
variable {W0 W W' : World} {p : Pos} {v : Value} {l : List Mv} {g : Nat} {vM : Value} {M : List Mvi} {rb : Nat} {a b s D : Int} {f : Bool}
theorem RbAt.below (h : RbAt W0 W p v l g vM M rb a b s D f) (hb : Below W.heap.size W W') : RbAt W0 W' p v l g vM M rb a b s D f := ⟨h.ra.below hb, h.rm.below hb, h.ans.below hb, h.box.below hb⟩
theorem RbAt.put (h : RbAt W0 W p v l g vM M rb a b s D f) (hrb : W0.heap.size + 1 < rb) (hg : (l ≠ [] → ∀ k, v.ownBlock = some k → k ≠ rb) ∧ (M ≠ [] → g ≠ rb)) (a2 b2 s2 D2 : Int) (f2 : Bool) : RbAt W0 (setR W rb a2 b2 s2 D2 f2) p v l g vM M rb a2 b2 s2 D2 f2 := by
  have hk := ken_setR W rb a2 b2 s2 D2 f2
  refine ⟨⟨h.ra.box.ken hk (by omega), ?_, below_setR h.ra.bel (by omega) _ _ _ _ _⟩, ?_, h.ans.ken hk (by omega), h.box.put _ _ _ _ _⟩
  · by_cases hl : l = []
    · obtain ⟨A, cap, hv, _⟩ := h.ra.m1.out
      exact ⟨A, cap, hv, .inl hl⟩
    · exact h.ra.m1.ken hk (fun k hk2 => hg.1 hl k hk2)
  · by_cases hM : M = []
    · obtain ⟨A, cap, hv, _⟩ := h.rm.out
      exact ⟨A, cap, hv, .inl hM⟩
    · exact h.rm.ken hk (hg.2 hM)
end
theorem MvAt.lt {W : World} {B : Nat} {v : Value} {l : List Mv} (h : MvAt W B v l) (hl : l ≠ []) : ∀ k, v.ownBlock = some k → k < W.heap.size := by
  obtain ⟨g, cap, hv, _, hg, _⟩ := h.at hl
  intro k hk
  rw [hv] at hk
  have : g = k := by simpa [Value.ownBlock] using hk
  omega
/-- A new position's box, written. -/
theorem box_put {W0 W : World} (hb : Below W0.heap.size W0 W) (z0 : W.cell? ⟨W0.heap.size, 0, none⟩ = some (.string { data := #[] })) (z1 : W.cell? ⟨W0.heap.size, 1, none⟩ = some (.int .i64 0)) (z2 : W.cell? ⟨W0.heap.size, 2, none⟩ = some (.int .i64 0)) (z3 : W.cell? ⟨W0.heap.size, 3, none⟩ = some (.int .i64 0)) (q : Pos) :
    Below W0.heap.size W0 ((((W.setCell ⟨W0.heap.size, 0, none⟩ (.string q.cells)).setCell ⟨W0.heap.size, 1, none⟩ (.int .i64 q.side)).setCell ⟨W0.heap.size, 2, none⟩ (.int .i64 q.clock)).setCell ⟨W0.heap.size, 3, none⟩ (.int .i64 q.full)) ∧
    BoxP ((((W.setCell ⟨W0.heap.size, 0, none⟩ (.string q.cells)).setCell ⟨W0.heap.size, 1, none⟩ (.int .i64 q.side)).setCell ⟨W0.heap.size, 2, none⟩ (.int .i64 q.clock)).setCell ⟨W0.heap.size, 3, none⟩ (.int .i64 q.full)) W0.heap.size q :=
  ⟨Below.setCell (p := ⟨W0.heap.size, 3, none⟩) (Below.setCell (p := ⟨W0.heap.size, 2, none⟩) (Below.setCell (p := ⟨W0.heap.size, 1, none⟩) (Below.setCell (p := ⟨W0.heap.size, 0, none⟩) hb (Nat.le_refl _) _) (Nat.le_refl _) _) (Nat.le_refl _) _) (Nat.le_refl _) _, ⟨by simp [go_sem, z0, z1, z2, z3], by simp [go_sem, z0, z1, z2, z3], by simp [go_sem, z0, z1, z2, z3], by simp [go_sem, z0, z1, z2, z3]⟩⟩
/-- What the reference's Best answers. -/
def RbIs (p : Pos) (d : Nat) (E : Int) (M : List Mvi) (W : World) (e : Ending) (w' : World) : Prop :=
  ∃ (a b s D : Int) (f : Bool), e = .returned (.tuple #[resV a b s D f, .int .i64 E]) ∧ resT (if E = 0 then firstB (moveW p d 0) (begL p M) else none) ((d : Int) + 1) a b s D f ∧ Below W.heap.size W w'
set_option maxRecDepth 100000 in
set_option maxHeartbeats 4000000 in
theorem rbest_no (p : Pos) (hmx : p.cells.size ≤ maxLen) (D : Int) (v : Value) (W : World) (hE : begE p D 1 [] ≠ 0) :
    Calls Tryz.prog 13 #[posV p, .int .i64 D, v] W (BestNo (begE p D 1 []) W) := by
  have HB := Aside0.mk (fun (W' : World) => rcheck22_c p hmx D 1 W')
  have hu := Tryz.underlying23
  have hu3 := Tryz.underlying41
  have h1 := below_alloc (Below.refl W.heap.size W) (.cells #[.string p.cells, .int .i64 p.side, .int .i64 p.clock, .int .i64 p.full] 23)
  have e3 := BoxR.new (W.alloc (.cells #[.string p.cells, .int .i64 p.side, .int .i64 p.clock, .int .i64 p.full] 23)) 0 0 0 0 false 41
  rw [World.size_alloc] at e3
  have HS := Aside0.mk (show BsAt W ((W.alloc (.cells #[.string p.cells, .int .i64 p.side, .int .i64 p.clock, .int .i64 p.full] 23)).alloc (.cells #[.int .i64 0, .int .i64 0, .int .i64 0, .int .i64 0, .bool false] 41)) p from ⟨(BoxP.new W p).below (below_alloc (Below.refl _ _) _), e3, below_alloc h1 _⟩)
  have hne : (begE p D 1 [] != 0) = true := by simpa using hE
  generalize begE p D 1 [] = E at *
  clear hE hmx h1 e3
  go_enter Tryz.func13, Tryz.ntmps13
  go_upto_region 1 with fail
  generalize (W.alloc (.cells #[.string p.cells, .int .i64 p.side, .int .i64 p.clock, .int .i64 p.full] 23)).alloc (.cells #[.int .i64 0, .int .i64 0, .int .i64 0, .int .i64 0, .bool false] 41) = W1 at *
  obtain ⟨c0, c1, c2, c3⟩ := HS.out.box
  go_wp2_with fail
  refine (HB.out _).mono ?_
  rintro e w1 ⟨rfl, hb⟩
  have H1 := Aside0.mk (HS.out.below hb)
  clear hb c0 c1 c2 c3
  obtain ⟨q0, q1, q2, q3, q4, qf⟩ := H1.out.ans
  go_wp2_with fail
  refine bodyPost_ret (by simp [results, Tryz.results13, go_sem, q0, q1, q2, q3, q4]; try rfl) rfl ?_
  exact ⟨rfl, below_setR H1.out.bel (Nat.le_succ _) 0 0 0 0 false⟩
set_option maxRecDepth 100000 in
set_option maxHeartbeats 8000000 in
theorem rbest_c (p : Pos) (hmx : p.cells.size ≤ maxLen) (d : Nat) (M : List Mvi) (hM : M.length ≤ 10000) (g : Nat) (v : Value) (W : World) (hr : RowI W g v M) (hE : begE p ((d : Int) + 1) 1 [] = 0) :
    Calls Tryz.prog 13 #[posV p, .int .i64 ((d : Int) + 1), v] W (RbIs p d (begE p ((d : Int) + 1) 1 M) M W) := by
  have HB := fun (W' : World) => rcheck22_c p hmx ((d : Int) + 1) 1 W'
  rw [hE] at HB
  have HB := Aside0.mk HB
  obtain ⟨hw, _, hd⟩ := begE_zero hE
  have hnd : ¬ ((d : Int) + 1 < 1 ∨ 64 < (d : Int) + 1) := by omega
  have HM := Aside0.mk (fun W => rmoves8_c p hmx W)
  have HAP := Aside0.mk (fun (m : Mvi) (W : World) => rapply_c p hmx m W)
  have HF := Aside0.mk (fun (m : Mv) (hm : m ∈ legalL p) => show ∃ q cq, applyP p (mviOf m) = (q, cq, 0) ∧ wellS q = 0 ∧ moveW p d 0 m = - worthS d q.cells q.side q.clock 1 by
    obtain ⟨q, cq, e1, e2, e3, e4, e5⟩ := legal_step8 hm
    obtain ⟨_, _, hs⟩ := legal_mem.1 hm
    have e6 := step_worth d 0 hm e1
    rw [make_ok hw hs] at e1
    exact ⟨q, cq, e1, e2, e6⟩)
  have HRW := Aside0.mk (fun (q : Pos) (W : World) (hwq : wellS q = 0) => show Calls Tryz.prog 24 #[posV q, .int .i64 (d : Int), .int .i64 1] W fun e w' => e = .returned (.int .i64 (worthS d q.cells q.side q.clock 1)) ∧ Below W.heap.size W w' from rw_all d q 1 W hwq (by omega))
  have HWB := Aside0.mk (fun (q : Pos) => worthS_le d q.cells q.side q.clock 1 (by omega))
  have HLN := Aside0.mk (show ((legalL p).map mviOf).length ≤ 10000 by rw [List.length_map]; exact Nat.le_trans (legal_len2 p) (by decide))
  have HLL := Aside0.mk (legal_len2 p)
  have HHL := Aside0.mk (fun (m : Mvi) (g : Nat) (v : Value) (W : World) (h : RowI W g v ((legalL p).map mviOf)) => rhas_c ((legalL p).map mviOf) m HLN.out g v W h)
  have HHM := Aside0.mk (fun (m : Mvi) (W : World) (h : RowI W g v M) => rhas_c M m hM g v W h)
  have HML := Aside0.mk hM
  have HOK := Aside0.mk (fun (h3 : ∀ j (hj : j < M.length), hasI ((legalL p).map mviOf) M[j] = true) => begE_ok (D := (d : Int) + 1) (least := 1) hw hnd h3)
  have HMV := Aside0.mk (fun (j : Nat) (hj : j < M.length) (h3 : hasI ((legalL p).map mviOf) M[j] = false) => begE_move (D := (d : Int) + 1) (least := 1) hw hnd j hj h3)
  have HEND := Aside0.mk (fun (a b s D : Int) (f : Bool) (E : Int) (w' : World) (h0 : begE p ((d : Int) + 1) 1 M = E) (h1 : resT (if E = 0 then firstB (moveW p d 0) (begL p M) else none) ((d : Int) + 1) a b s D f) (h2 : Below W.heap.size W w') => show RbIs p d (begE p ((d : Int) + 1) 1 M) M W (.returned (.tuple #[resV a b s D f, .int .i64 E])) w' from ⟨a, b, s, D, f, by rw [h0], by rw [h0]; exact h1, h2⟩)
  have HBL := Aside0.mk (begL_sel p M)
  have hu := Tryz.underlying23
  have hu2 := Tryz.underlying36
  have hu3 := Tryz.underlying41
  have h1 := below_alloc (Below.refl W.heap.size W) (.cells #[.string p.cells, .int .i64 p.side, .int .i64 p.clock, .int .i64 p.full] 23)
  have e3 := BoxR.new (W.alloc (.cells #[.string p.cells, .int .i64 p.side, .int .i64 p.clock, .int .i64 p.full] 23)) 0 0 0 0 false 41
  rw [World.size_alloc] at e3
  have HS := Aside0.mk (show BsAt W ((W.alloc (.cells #[.string p.cells, .int .i64 p.side, .int .i64 p.clock, .int .i64 p.full] 23)).alloc (.cells #[.int .i64 0, .int .i64 0, .int .i64 0, .int .i64 0, .bool false] 41)) p ∧ RowI ((W.alloc (.cells #[.string p.cells, .int .i64 p.side, .int .i64 p.clock, .int .i64 p.full] 23)).alloc (.cells #[.int .i64 0, .int .i64 0, .int .i64 0, .int .i64 0, .bool false] 41)) g v M from ⟨⟨(BoxP.new W p).below (below_alloc (Below.refl _ _) _), e3, below_alloc h1 _⟩, hr.below (below_alloc h1 _)⟩)
  obtain ⟨A, cap, rfl⟩ := hr.form
  have hdb : (d : Int) ≤ 63 := by omega
  generalize begE p ((d : Int) + 1) 1 M = E at *
  generalize begL p M = BL at *
  generalize moveW p d 0 = f at *
  generalize legalL p = l at *
  clear hE hmx h1 e3 hr hM hw hd hnd
  go_enter Tryz.func13, Tryz.ntmps13
  go_upto_region 1 with fail
  generalize (W.alloc (.cells #[.string p.cells, .int .i64 p.side, .int .i64 p.clock, .int .i64 p.full] 23)).alloc (.cells #[.int .i64 0, .int .i64 0, .int .i64 0, .int .i64 0, .bool false] 41) = W1 at *
  obtain ⟨c0, c1, c2, c3⟩ := HS.out.1.box
  go_wp2_with fail
  refine (HB.out _).mono ?_
  rintro e w1 ⟨rfl, hb⟩
  have H1 := Aside0.mk (And.intro (HS.out.1.below hb) (HS.out.2.below hb))
  clear hb c0 c1 c2 c3 HS HB
  obtain ⟨c0, c1, c2, c3⟩ := H1.out.1.box
  go_wp2_with fail
  refine (HM.out _).mono ?_
  rintro e w2 ⟨v1, rfl, ho, hb⟩
  have H2 := Aside0.mk (And.intro (And.intro (H1.out.1.below hb) (H1.out.2.below hb)) (ho.reads.lower H1.out.1.bel.size))
  obtain ⟨A1, cap1, rfl⟩ := ho.reads.form
  clear ho hb c0 c1 c2 c3 H1 HM
  go_wp2_with fail
  go_loopg [10] M.length (fun gg s10 wr => ∃ i : Nat, s10 = .int .i64 (i : Int) ∧ i + gg = M.length ∧ Aside0 (∀ j (hj : j < M.length), j < i → hasI (l.map mviOf) M[j] = true) ∧ Aside0 ((BsAt W wr p ∧ RowI wr g (.slice A M.length cap) M) ∧ MvAt wr W.heap.size (.slice A1 l.length cap1) l))
  case atStart => exact ⟨0, rfl, by omega, ⟨fun j hj h => by omega⟩, H2⟩
  case round =>
    clear H2
    obtain ⟨i, rfl, hi, HA, H2⟩ := hrel
    cases gk with
    | succ k =>
      have hn : (i : Int) < (M.length : Int) := by omega
      have hil : i < M.length := by omega
      have hib : (i : Int) ≤ 10000 := by have := HML.out; omega
      have HI := Aside0.mk (show i + 1 + k = M.length by omega)
      obtain ⟨o, cap1', hA1, hx1⟩ := H2.out.1.2.at (fun h => by rw [h] at hil; simp at hil)
      simp only [Value.slice.injEq, true_and] at hA1
      obtain ⟨rfl, rfl⟩ := hA1
      obtain ⟨x0, x1⟩ := hx1 i hil
      have HNO := Aside0.mk (fun (h : hasI (l.map mviOf) M[i] = false) => HMV.out i hil h)
      have HNN := Aside0.mk (fun (h : hasI (l.map mviOf) M[i] = true) j (hj : j < M.length) (h2 : j < i + 1) => show hasI (l.map mviOf) M[j] = true by
        by_cases h3 : j = i
        · subst h3; exact h
        · exact HA.out j hj (by omega))
      clear hx1 hi
      obtain ⟨g9, hr9, _⟩ := H2.out.2.rowI
      have HCC := Aside0.mk (HHL.out M[i] g9 _ _ hr9)
      generalize hasI (l.map mviOf) M[i] = bb at *
      generalize M[i] = m at *
      obtain ⟨ma, mb⟩ := m
      simp only at x0 x1
      clear hr9 hil
      go_wp2_with fail
      refine HCC.out.mono ?_
      rintro e w6 ⟨rfl, hb⟩
      have H6 := Aside0.mk (And.intro (And.intro (H2.out.1.1.below hb) (H2.out.1.2.below hb)) (H2.out.2.below hb))
      clear hb x0 x1
      cases bb
      case true =>
        go_wp2_with fail
        go_roundg k
        case measure => omega
        case rel => exact ⟨i + 1, by go_num, by have := HI.out; omega, ⟨HNN.out (by simp)⟩, H6⟩
      case false =>
        obtain ⟨q0, q1, q2, q3, q4, qf⟩ := H6.out.1.1.ans
        go_wp2_with fail
        refine bodyPost_ret (by simp [results, Tryz.results13, go_sem, q0, q1, q2, q3, q4]; try rfl) rfl ?_
        exact HEND.out 0 0 0 0 false 7 _ (HNO.out (by simp)) ⟨rfl, rfl, rfl, rfl, rfl⟩ (below_setR H6.out.1.1.bel (Nat.le_succ _) 0 0 0 0 false)
    | zero =>
      have hn : ¬ ((i : Int) < (M.length : Int)) := by omega
      have HE0 := Aside0.mk (HOK.out (fun j hj => HA.out j hj (by omega)))
      clear hi HA HHL HMV HOK
      go_upto_region 11 with fail
      have HA2 := below_alloc (Below.refl wr.heap.size wr) (.cells #[.int .i64 0, .int .i64 0, .int .i64 0, .int .i64 0, .bool false] 41)
      have HR0 := Aside0.mk (show RbAt W (wr.alloc (.cells #[.int .i64 0, .int .i64 0, .int .i64 0, .int .i64 0, .bool false] 41)) p (.slice A1 l.length cap1) l g (.slice A M.length cap) M wr.heap.size 0 0 0 0 false from ⟨⟨H2.out.1.1.box.below HA2, H2.out.2.below HA2, below_go H2.out.1.1.bel HA2⟩, H2.out.1.2.below HA2, H2.out.1.1.ans.below HA2, BoxR.new wr 0 0 0 0 false 41⟩)
      have HRB := Aside0.mk (show W.heap.size + 1 < wr.heap.size from H2.out.1.1.ans.lt)
      have HRG := Aside0.mk (show (l ≠ [] → ∀ k, (Value.slice A1 l.length cap1).ownBlock = some k → k ≠ wr.heap.size) ∧ (M ≠ [] → g ≠ wr.heap.size) from ⟨fun hl k hk => Nat.ne_of_lt (H2.out.2.lt hl k hk), fun hM => Nat.ne_of_lt (H2.out.1.2.lt hM)⟩)
      clear HA2 H2
      generalize wr.alloc (.cells #[.int .i64 0, .int .i64 0, .int .i64 0, .int .i64 0, .bool false] 41) = w3 at *
      generalize wr.heap.size = rb at *
      go_wp2_with fail
      go_loopg [12] l.length (fun gg s12 wr => ∃ (i : Nat) (a b s D : Int) (fd : Bool), s12 = .int .i64 (i : Int) ∧ i + gg = l.length ∧ Aside0 (resT (firstB f ((l.take i).filter (selB M))) ((d : Int) + 1) a b s D fd) ∧ Aside0 (RbAt W wr p (.slice A1 l.length cap1) l g (.slice A M.length cap) M rb a b s D fd))
      case atStart => exact ⟨0, 0, 0, 0, 0, false, rfl, by omega, ⟨⟨rfl, rfl, rfl, rfl, rfl⟩⟩, HR0⟩
      case round =>
        clear HR0
        obtain ⟨i, a, b, s, D, fd, rfl, hi, HT, HR⟩ := hrel
        cases gk with
        | zero =>
          have hn2 : ¬ ((i : Int) < (l.length : Int)) := by omega
          have HT2 := Aside0.mk (show resT (firstB f BL) ((d : Int) + 1) a b s D fd by
            have := HT.out
            rw [show i = l.length by omega, List.take_length, ← HBL.out] at this
            exact this)
          clear hi HT
          obtain ⟨q0, q1, q2, q3, q4, qf⟩ := HR.out.ans
          obtain ⟨r0, r1, r2, r3, r4, rf⟩ := HR.out.box
          go_wp2_with fail
          refine bodyPost_ret (by simp [results, Tryz.results13, go_sem, q0, q1, q2, q3, q4, r0, r1, r2, r3, r4]; try rfl) rfl ?_
          exact HEND.out a b s D fd 0 _ HE0.out HT2.out (below_setR HR.out.ra.bel (Nat.le_succ _) a b s D fd)
        | succ k =>
          have hn2 : (i : Int) < (l.length : Int) := by omega
          have hil : i < l.length := by omega
          have hib : (i : Int) ≤ 8100 := by have := HLL.out; omega
          have HI := Aside0.mk (show i + 1 + k = l.length by omega)
          obtain ⟨g1, cap1', hA1, _, hg1, hx1⟩ := HR.out.ra.m1.at (fun h => by rw [h] at hil; simp at hil)
          simp only [Value.slice.injEq, true_and] at hA1
          obtain ⟨rfl, rfl⟩ := hA1
          obtain ⟨x0, x1⟩ := hx1 i hil
          have HXC := Aside0.mk (fun V (h : MvAt V W.heap.size (.slice (some ⟨g1, 0, none⟩) l.length cap1) l) => h.cell i hil)
          have HYES := Aside0.mk (fun h => sel_take_yes l (selB M) i hil h)
          have HNOT := Aside0.mk (fun h => sel_take_no l (selB M) i hil h)
          have HSE := Aside0.mk (show selB M l[i] = (M.isEmpty || hasI M (mviOf l[i])) from rfl)
          obtain ⟨q, cq, hap, hwq, hfq⟩ := HF.out l[i] (List.getElem_mem hil)
          have HFQ := Aside0.mk hfq
          have hwb := HWB.out q
          have HAP1 := Aside0.mk (HAP.out (mviOf l[i]))
          unfold ApplyIs at HAP1
          rw [hap] at HAP1
          have HRW1 := Aside0.mk (fun W => HRW.out q W hwq)
          have HHM1 := Aside0.mk (fun W h => HHM.out (mviOf l[i]) W h)
          generalize worthS d q.cells q.side q.clock 1 = wq at *
          generalize l[i] = m at *
          obtain ⟨ma, mb⟩ := m
          simp only at x0 x1
          clear hx1 hi hwq hap hfq hil
          go_upto_region 14 with fail
          go_cut [58] from 47 to 58 (fun s58 wx => s58 = .bool (!selB M (ma, mb)) ∧ Aside0 (RbAt W wx p (.slice (some ⟨g1, 0, none⟩) l.length cap1) l g (.slice A M.length cap) M rb a b s D fd))
          case first =>
            by_cases hne : M = []
            · have hz : ¬ ((0 : Int) < (M.length : Int)) := by rw [hne]; simp
              have HB2 := Aside0.mk (show selB M (ma, mb) = true by rw [HSE.out, hne]; rfl)
              clear hne
              go_wp2_with fail
              go_meet
              exact ⟨by rw [HB2.out]; rfl, HR⟩
            · have hz : (0 : Int) < (M.length : Int) := by have := List.length_pos_iff.2 hne; omega
              have HB2 := Aside0.mk (show selB M (ma, mb) = hasI M (mviOf (ma, mb)) by rw [HSE.out, show M.isEmpty = false by simpa using hne]; rfl)
              clear hne
              go_wp2_with fail
              refine (HHM1.out _ HR.out.rm).mono ?_
              rintro e w4 ⟨rfl, hb⟩
              have HR4 := Aside0.mk (HR.out.below hb)
              clear hb x0 x1
              go_wp2_with fail
              go_meet
              exact ⟨by rw [HB2.out], HR4⟩
          case rest =>
          obtain ⟨rfl, HR2⟩ := hcut
          clear HR x0 x1 HSE HHM1
          obtain ⟨x0, x1⟩ := HXC.out _ HR2.out.ra.m1
          cases hsel : selB M (ma, mb)
          case false =>
            have HTN := Aside0.mk (show resT (firstB f ((l.take (i + 1)).filter (selB M))) ((d : Int) + 1) a b s D fd by rw [HNOT.out hsel]; exact HT.out)
            clear hsel
            go_wp2_with fail
            go_roundg k
            case measure => omega
            case rel => exact ⟨i + 1, a, b, s, D, fd, by go_num, by have := HI.out; omega, HTN, HR2⟩
          case true =>
            have HTN := Aside0.mk (show firstB f ((l.take (i + 1)).filter (selB M)) = fbF f (firstB f ((l.take i).filter (selB M))) (ma, mb) by rw [HYES.out hsel, firstB_snoc])
            clear hsel HYES HNOT
            obtain ⟨e0, e1, e2, e3⟩ := HR2.out.ra.box
            go_upto_region 15 with fail
            have HX1 := Aside0.mk (HR2.out.below (pw_below_drewN (Below.refl _ _) 1))
            clear HR2
            go_cut [13] from 59 to 68 (fun s13 wx => ∃ qb : Nat, s13 = .pointer (some ⟨qb, 0, none⟩) ∧ Aside0 (RbAt W wx p (.slice (some ⟨g1, 0, none⟩) l.length cap1) l g (.slice A M.length cap) M rb a b s D fd ∧ BoxP wx qb q))
            case first =>
              go_region_held3 (fun V => V.cell? ⟨W.heap.size, 0, none⟩ = some (.string p.cells) ∧ V.cell? ⟨W.heap.size, 1, none⟩ = some (.int .i64 p.side) ∧ V.cell? ⟨W.heap.size, 2, none⟩ = some (.int .i64 p.clock) ∧ V.cell? ⟨W.heap.size, 3, none⟩ = some (.int .i64 p.full) ∧ V.cell? ⟨g1, i * 2, none⟩ = some (.int .i64 (ma : Int)) ∧ V.cell? ⟨g1, i * 2 + 1, none⟩ = some (.int .i64 (mb : Int))) (go_keep)
                (first
                  | (go_at_call 27; (with_reducible refine (HAP1.out wc.drew).mono ?_); rintro e w6 ⟨rfl, hb⟩; have HX2 := Aside0.mk (HX1.out.below hb); clear HX1 hb e0 e1 e2 e3 x0 x1; obtain ⟨e0, e1, e2, e3⟩ := HX2.out.ra.box; obtain ⟨x0, x1⟩ := HXC.out _ HX2.out.ra.m1; have n0 : w6.heap.size ≠ W.heap.size := World.new_ne w6 _ e0; have n1 : w6.heap.size ≠ g1 := World.new_ne w6 _ x0)
                  | (go_at_call 27; refine (HAP1.out _).mono ?_; rintro e w6 ⟨rfl, hb⟩; have HZ := Aside0.mk (zq_new wc.drew w6 hb); have HX2 := Aside0.mk ((HX1.out.below (below_alloc (Below.refl _ _) _)).below hb); have n0 : wc.heap.size ≠ W.heap.size := World.new_ne wc _ e0; have n1 : wc.heap.size ≠ g1 := World.new_ne wc _ x0; clear hb e0 e1 e2 e3 x0 x1; obtain ⟨e0, e1, e2, e3⟩ := HX2.out.ra.box; obtain ⟨x0, x1⟩ := HXC.out _ HX2.out.ra.m1; have z0 : w6.cell? ⟨wc.heap.size, 0, none⟩ = some (.string { data := #[] }) := HZ.out.1; have z1 : w6.cell? ⟨wc.heap.size, 1, none⟩ = some (.int .i64 0) := HZ.out.2.1; have z2 : w6.cell? ⟨wc.heap.size, 2, none⟩ = some (.int .i64 0) := HZ.out.2.2.1; have z3 : w6.cell? ⟨wc.heap.size, 3, none⟩ = some (.int .i64 0) := HZ.out.2.2.2.1; have zf : ∀ k, w6.frozen? ⟨wc.heap.size, k, none⟩ = false := HZ.out.2.2.2.2.1))
              all_goals
                go_wp2_with fail
                go_meet
                first
                | exact ⟨_, rfl, ⟨HX2.out.below (below_alloc (Below.refl _ _) _), BoxP.new _ q⟩⟩
                | exact ⟨_, rfl, ⟨HX1.out.below (box_put (W0 := wc.drew) HZ.out.2.2.2.2.2 z0 z1 z2 z3 q).1, (box_put (W0 := wc.drew) HZ.out.2.2.2.2.2 z0 z1 z2 z3 q).2⟩⟩
            case rest =>
            obtain ⟨qb, rfl, HQ⟩ := hcut
            clear e0 e1 e2 e3 x0 x1 HX1 HAP1
            obtain ⟨f0, f1, f2, f3⟩ := HQ.out.2
            go_wp2_with fail
            refine (HRW1.out _).mono ?_
            rintro e w7 ⟨rfl, hb⟩
            have HQ2 := Aside0.mk (HQ.out.1.below hb)
            clear hb f0 f1 f2 f3 HQ
            obtain ⟨x0, x1⟩ := HXC.out _ HQ2.out.ra.m1
            obtain ⟨r0, r1, r2, r3, r4, rf⟩ := HQ2.out.box
            have HS2 := Aside0.mk (show f (ma, mb) = - wq from HFQ.out)
            cases fd
            case false =>
              go_wp2_with fail
              have HX := Aside0.mk (show RbAt W (setR w7 rb (ma : Int) (mb : Int) (-wq) ((d : Int) + 1) true) p (.slice (some ⟨g1, 0, none⟩) l.length cap1) l g (.slice A M.length cap) M rb (ma : Int) (mb : Int) (-wq) ((d : Int) + 1) true from HQ2.out.put HRB.out HRG.out _ _ _ _ _)
              go_roundg k
              case measure => omega
              case rel => exact ⟨i + 1, ma, mb, -wq, (d : Int) + 1, true, by go_num, by have := HI.out; omega, ⟨by rw [HTN.out, ← HS2.out]; exact HT.out.more (ma, mb) (.inl rfl)⟩, HX⟩
            case true =>
              by_cases hgt : s < -wq
              · go_wp2_with fail
                have HX := Aside0.mk (show RbAt W (setR w7 rb (ma : Int) (mb : Int) (-wq) ((d : Int) + 1) true) p (.slice (some ⟨g1, 0, none⟩) l.length cap1) l g (.slice A M.length cap) M rb (ma : Int) (mb : Int) (-wq) ((d : Int) + 1) true from HQ2.out.put HRB.out HRG.out _ _ _ _ _)
                go_roundg k
                case measure => omega
                case rel => exact ⟨i + 1, ma, mb, -wq, (d : Int) + 1, true, by go_num, by have := HI.out; omega, ⟨by rw [HTN.out, ← HS2.out]; exact HT.out.more (ma, mb) (.inr (by rw [HS2.out]; exact hgt))⟩, HX⟩
              · go_wp2_with fail
                go_roundg k
                case measure => omega
                case rel => exact ⟨i + 1, a, b, s, D, true, by go_num, by have := HI.out; omega, ⟨by rw [HTN.out]; exact HT.out.same (ma, mb) rfl (by rw [HS2.out]; omega)⟩, HQ2⟩
end Go.Proofs.YtafmapadkpjliaaGreatDoor.K

/- SearchLimited: the walk. -/
namespace Go.Proofs.YtafmapadkpjliaaGreatDoor.K
open Go.RowKit Go.Lib Go.Proofs.YtafmapadkpjliaaGreatDoorW.PrintWords Go.Proofs.YtafmapadkpjliaaGreatDoorW.PrintLast Go.Proofs.YtafmapadkpjliaaGreatDoorW.PrintMore Go.Proofs.YtafmapadkpjliaaGreatDoor.Sp
set_option linter.unusedVariables false
set_option linter.unusedSimpArgs false
set_option maxRecDepth 100000 in
set_option maxHeartbeats 2000000 in
/-- told: the same, as the document has it. -/
theorem told_c (a b s D : Int) (f : Bool) (w : World) : Calls Tryz.prog 14 #[resV a b s D f] w fun e w' => e = .returned (resV a b s D f) ∧ Below w.heap.size w w' := by
  have hu := Tryz.underlying36
  have hu3 := Tryz.underlying38
  have hu4 := Tryz.underlying41
  go_enter Tryz.func14, Tryz.ntmps14
  go_wp2_with fail
  refine bodyPost_ret (by simp [results, Tryz.results14, go_sem]; try rfl) rfl ?_
  exact ⟨rfl, by (repeat' (first | (with_reducible exact Below.refl _ _) | (with_reducible refine pw_below_drewN ?_ _) | (with_reducible refine below_alloc ?_ _) | (with_reducible refine Below.drew ?_) | (with_reducible refine Below.setCell ?_ ?_ _) | (simp; done))) <;> first | (simp; done) | (simp; omega)⟩
/-- What Limited tells, in one. -/
def LimIs (p : Pos) (D most : Int) (W : World) (e : Ending) (w' : World) : Prop :=
  ∃ (a b s D' : Int) (f : Bool) (E : Int), e = .returned (.tuple #[resV a b s D' f, .int .i64 E]) ∧ Below W.heap.size W w' ∧ E = (if begE p D 1 [] = 0 ∧ most < 1 then 1 else begE p D 1 []) ∧ (f = false → a = 0 ∧ b = 0 ∧ s = 0 ∧ D' = 0 ∧ (E = 0 → legalL p = [])) ∧
    (f = true → E = 0 ∧ ∃ dd : Nat, D' = (dd : Int) + 1 ∧ D' ≤ D ∧ (1000000 ≤ most → D' = D) ∧ resT (firstB (moveW p dd 0) (legalL p)) ((dd : Int) + 1) a b s D' true ∧ begE p ((dd : Int) + 1) 1 [] = 0)
theorem lim_all (p : Pos) (D most : Int) (hm2 : most ≤ 9223372036854775807) (h9 : wellS p = 0 → nP p.cells ≤ 9) (hD : D ≤ 1 ∨ 64 < D ∨ D = 2) (W : World) (hT : TabW W) :
    Calls Tryz.prog 15 #[posV p, .int .i64 D, .int .i64 most] W (LimIs p D most W) := by
  by_cases hE : begE p D 1 [] = 0
  · obtain ⟨hw, h1, h64⟩ := begE_zero hE
    by_cases hm : most < 1
    · refine (lim_arg p D most hm W hT hE).mono ?_
      rintro e w' ⟨rfl, hb⟩
      exact ⟨0, 0, 0, 0, false, 1, rfl, hb, (if_pos ⟨hE, hm⟩).symm, fun _ => ⟨rfl, rfl, rfl, rfl, fun h => absurd h (by decide)⟩, fun h => by cases h⟩
    · obtain ⟨d, hd, hdD⟩ : ∃ d : Nat, d ≤ 1 ∧ D = (d : Int) + 1 := ⟨(D - 1).toNat, by omega, by omega⟩
      subst hdD
      refine (lim_ok p d hd (h9 hw) most (by omega) hm2 W hT hE).mono ?_
      rintro e w' ⟨a, b, s, D', f, dd, rfl, h2, h3, h4, h5⟩
      refine ⟨a, b, s, D', f, 0, rfl, h5, by rw [if_neg (fun h => hm h.2), hE], fun hf => ?_, fun hf => ?_⟩
      · subst hf
        have h6 := resT_not h4
        have h7 := h4
        rw [h6] at h7
        obtain ⟨r1, r2, r3, r4, _⟩ := h7
        exact ⟨r1, r2, r3, r4, fun _ => firstB_none h6⟩
      · subst hf
        have hD' : D' = (dd : Int) + 1 := by
          cases ho : firstB (moveW p dd 0) (legalL p) with
          | none => rw [ho] at h4; obtain ⟨_, _, _, _, h⟩ := h4; cases h
          | some x => obtain ⟨m, v⟩ := x; rw [ho] at h4; exact h4.2.2.2.1
        exact ⟨rfl, dd, hD', by omega, fun h => by rw [hD', h3 h], h4, begE_ok hw (by omega) (fun j hj => absurd hj (by simp))⟩
  · refine (lim_no p D most W hT hE).mono ?_
    rintro e w' ⟨rfl, hb⟩
    exact ⟨0, 0, 0, 0, false, _, rfl, hb, (if_neg (fun h => hE h.1)).symm, fun _ => ⟨rfl, rfl, rfl, rfl, fun h => absurd h hE⟩, fun h => by cases h⟩
/-- The document's Best tells the same as any that tells the best one. -/
theorem resT_same {o : Option (Mv × Int)} {D a b s D' a2 b2 s2 D2 : Int} {f f2 : Bool} (h : resT o D a b s D' f) (h2 : resT o D a2 b2 s2 D2 f2) : a2 = a ∧ b2 = b ∧ s2 = s ∧ D2 = D' ∧ f2 = f := by
  cases o with
  | none =>
    obtain ⟨r1, r2, r3, r4, r5⟩ := h
    obtain ⟨q1, q2, q3, q4, q5⟩ := h2
    exact ⟨q1.trans r1.symm, q2.trans r2.symm, q3.trans r3.symm, q4.trans r4.symm, q5.trans r5.symm⟩
  | some x =>
    obtain ⟨m, v⟩ := x
    obtain ⟨r1, r2, r3, r4, r5⟩ := h
    obtain ⟨q1, q2, q3, q4, q5⟩ := h2
    exact ⟨q1.trans r1.symm, q2.trans r2.symm, q3.trans r3.symm, q4.trans r4.symm, q5.trans r5.symm⟩
/-- A position's box beside a result's. -/
structure LrAt (w0 W : World) (p : Pos) (rb : Nat) (a b s D : Int) (f : Bool) : Prop where
  lm : LmAt w0 W p
  box : BoxR W rb a b s D f
theorem LrAt.below {w0 W W' : World} {p : Pos} {rb : Nat} {a b s D : Int} {f : Bool} (h : LrAt w0 W p rb a b s D f) (hb : Below W.heap.size W W') : LrAt w0 W' p rb a b s D f := ⟨h.lm.below hb, h.box.below hb⟩
set_option maxRecDepth 100000 in
set_option maxHeartbeats 8000000 in
theorem searchLimitedLaw (w : World) (p : Pos) (D most : Int) (hmx : p.cells.size ≤ maxLen) (hm2 : most ≤ 9223372036854775807) (hT : TabW w) : Calls Tryz.prog 5 #[posV p, .int .i64 D, .int .i64 most] w fun e w' => e = .returned (.bool true) ∧ Below w.heap.size w w' := by
  have HT := Aside0.mk (fun (W : World) (hb : Below w.heap.size w W) => hT.below hb)
  have HLV := Aside0.mk (fun (W : World) (hT : TabW W) => live22_c W hT)
  have HF := fun W => few22_c p hmx D W
  unfold Few22 at HF
  have HF := Aside0.mk HF
  have HF6 := fun W => few21_c p hmx 6 W
  unfold Few21 at HF6
  have HF6 := Aside0.mk HF6
  have HCK := Aside0.mk (fun W => rcheck22_c p hmx D 1 W)
  have HRM := Aside0.mk (fun W => rmoves8_c p hmx W)
  have HRB := Aside0.mk (fun (dd : Nat) (W : World) (h : begE p ((dd : Int) + 1) 1 [] = 0) => rbest_c p hmx dd [] (by decide) 0 (.slice none 0 0) W (RowI.nil _ _) h)
  have HLA := Aside0.mk (fun (h : (wellS p = 0 → nP p.cells ≤ 9) ∧ (D ≤ 1 ∨ 64 < D ∨ D = 2)) (W : World) (hT : TabW W) => lim_all p D most hm2 h.1 h.2 W hT)
  have HTD := Aside0.mk (fun (a b s D : Int) (f : Bool) (W : World) => told_c a b s D f W)
  have hu := Tryz.underlying23
  have hu2 := Tryz.underlying36
  have hu3 := Tryz.underlying38
  have hu4 := Tryz.underlying41
  have HP0 := Aside0.mk (LmAt.new w p)
  clear hmx hT hm2
  go_enter Tryz.func5, Tryz.ntmps5
  go_upto_region 1 with fail
  generalize w.alloc (.cells #[.string p.cells, .int .i64 p.side, .int .i64 p.clock, .int .i64 p.full] 23) = W1 at *
  obtain ⟨c0, c1, c2, c3⟩ := HP0.out.box
  go_wp2_with fail
  refine (HF.out _).mono ?_
  rintro e w1 ⟨b, rfl, hf, hb⟩
  have HP1 := Aside0.mk (HP0.out.below hb)
  have HFB := Aside0.mk hf
  clear hb hf c0 c1 c2 c3 HP0
  cases b
  case false =>
    go_wp2_with (go_at_call 8; refine (HLV.out _ (HT.out _ HP1.out.bel)).mono ?_; rintro e w2 ⟨rfl, hb⟩; have HW2 := Aside0.mk (HP1.out.below hb).bel; clear hb)
    go_ret
    exact ⟨rfl, HW2.out⟩
  have HLM := Aside0.mk (HLA.out (HFB.out rfl))
  unfold LimIs at HLM
  clear HLA HFB HF
  obtain ⟨c0, c1, c2, c3⟩ := HP1.out.box
  go_wp2_with fail
  refine (HLM.out _ (HT.out _ HP1.out.bel)).mono ?_
  rintro e w2 ⟨a, b, s, D', f, E, rfl, hb, hE, hf0, hf1⟩
  have hn := below_alloc (Below.refl w2.heap.size w2) (.cells #[.int .i64 a, .int .i64 b, .int .i64 s, .int .i64 D', .bool f] 38)
  have HR := Aside0.mk (show LrAt w (w2.alloc (.cells #[.int .i64 a, .int .i64 b, .int .i64 s, .int .i64 D', .bool f] 38)) p w2.heap.size a b s D' f from ⟨(HP1.out.below hb).below hn, BoxR.new w2 a b s D' f 38⟩)
  have HE := Aside0.mk hE
  have HF0 := Aside0.mk hf0
  have HF1 := Aside0.mk hf1
  clear hb hn hE hf0 hf1 c0 c1 c2 c3 HP1 HLM
  go_upto_region 4 with fail
  generalize w2.heap.size = rb at *
  generalize w2.alloc (.cells #[.int .i64 a, .int .i64 b, .int .i64 s, .int .i64 D', .bool f] 38) = w3 at *
  obtain ⟨c0, c1, c2, c3⟩ := HR.out.lm.box
  generalize hE0 : begE p D 1 [] = E0 at *
  have HE0 := Aside0.mk hE0
  clear hE0
  go_wp2_with fail
  refine (HCK.out _).mono ?_
  rintro e w4 ⟨rfl, hb⟩
  have HR4 := Aside0.mk (HR.out.below hb)
  clear hb c0 c1 c2 c3 HR HCK
  by_cases hz : E0 = 0
  case neg =>
    have hEE : E = E0 := by rw [HE.out, if_neg (fun h => hz h.1)]
    subst hEE
    have hne : (E != 0) = true := by simpa using hz
    have hne2 : (E == 0) = false := by simpa using hz
    cases f
    case true => exact absurd (HF1.out rfl).1 hz
    obtain ⟨rfl, rfl, rfl, rfl, _⟩ := HF0.out rfl
    clear hz
    obtain ⟨r0, r1, r2, r3, r4, _⟩ := HR4.out.box
    go_wp2_with (go_at_call 8; refine (HLV.out _ (HT.out _ HR4.out.lm.bel)).mono ?_; rintro e w5 ⟨rfl, hb⟩; have HW5 := Aside0.mk (HR4.out.lm.below hb).bel; clear hb)
    go_ret
    exact ⟨rfl, HW5.out⟩
  case pos =>
  subst hz
  by_cases hm : most < 1
  case pos =>
    have hEE : E = 1 := by rw [HE.out, if_pos ⟨rfl, hm⟩]
    subst hEE
    cases f
    case true => exact absurd (HF1.out rfl).1 (by decide)
    obtain ⟨rfl, rfl, rfl, rfl, _⟩ := HF0.out rfl
    obtain ⟨r0, r1, r2, r3, r4, _⟩ := HR4.out.box
    go_wp2_with (go_at_call 8; refine (HLV.out _ (HT.out _ HR4.out.lm.bel)).mono ?_; rintro e w5 ⟨rfl, hb⟩; have HW5 := Aside0.mk (HR4.out.lm.below hb).bel; clear hb)
    go_ret
    exact ⟨rfl, HW5.out⟩
  case neg =>
  have hEE : E = 0 := by rw [HE.out, if_neg (fun h => hm h.2)]
  subst hEE
  cases f
  case false =>
    obtain ⟨rfl, rfl, rfl, rfl, hno⟩ := HF0.out rfl
    have hno := hno rfl
    rw [hno] at HRM
    clear hno
    obtain ⟨r0, r1, r2, r3, r4, _⟩ := HR4.out.box
    obtain ⟨c0, c1, c2, c3⟩ := HR4.out.lm.box
    go_wp2_with fail
    refine (HRM.out _).mono ?_
    rintro e w5 ⟨v, rfl, ho, hb⟩
    obtain ⟨A, cp, hv⟩ := ho.reads.form
    have hv2 : v = .slice A 0 cp := hv
    clear hv
    subst hv2
    have HR5 := Aside0.mk (HR4.out.below hb)
    clear ho hb c0 c1 c2 c3 r0 r1 r2 r3 r4
    go_wp2_with (go_at_call 8; refine (HLV.out _ (HT.out _ HR5.out.lm.bel)).mono ?_; rintro e w6 ⟨rfl, hb⟩; have HW6 := Aside0.mk (HR5.out.lm.below hb).bel; clear hb)
    go_ret
    exact ⟨rfl, HW6.out⟩
  case true =>
  obtain ⟨_, dd, hDd, hDD, hDm, hres, hbe⟩ := HF1.out rfl
  have HWB := Aside0.mk (fun (W : World) => show Calls Tryz.prog 13 #[posV p, .int .i64 D', .slice none 0 0] W fun e w' => e = .returned (.tuple #[resV a b s D' true, .int .i64 0]) ∧ Below W.heap.size W w' by
    have h := HRB.out dd W hbe
    rw [hbe, ← hDd] at h
    refine h.mono ?_
    rintro e w' ⟨a2, b2, s2, D2, f2, rfl, h1, h2⟩
    rw [if_pos rfl, show begL p [] = legalL p from if_pos rfl, ← hDd] at h1
    rw [← hDd] at hres
    obtain ⟨rfl, rfl, rfl, rfl, rfl⟩ := resT_same hres h1
    exact ⟨rfl, h2⟩)
  have hD1 : 1 ≤ D' := by omega
  have HDM := Aside0.mk hDm
  clear hDd hDm hres hbe HF0 HF1 HE HE0 HRB HRM
  obtain ⟨r0, r1, r2, r3, r4, _⟩ := HR4.out.box
  obtain ⟨c0, c1, c2, c3⟩ := HR4.out.lm.box
  go_upto_region 11 with fail
  go_cut [81] from 59 to 81 (fun s81 wx => s81 = .bool false ∧ Aside0 (LrAt w wx p rb a b s D' true))
  case first =>
    by_cases hm6 : 1000000 ≤ most
    · have hDe : (D' != D) = false := by simpa using HDM.out hm6
      go_wp2_with fail
      refine (HF6.out _).mono ?_
      rintro e w5 ⟨b6, rfl, -, hb⟩
      have HR5 := Aside0.mk (HR4.out.below hb)
      clear hb c0 c1 c2 c3 r0 r1 r2 r3 r4
      obtain ⟨r0, r1, r2, r3, r4, _⟩ := HR5.out.box
      cases b6
      all_goals
        go_wp2_with fail
        go_meet
        exact ⟨by rw [decide_eq_false (by omega : ¬ D' < 1), decide_eq_false (by omega : ¬ D < D')]; rfl, HR5⟩
    · go_wp2_with fail
      go_meet
      exact ⟨by rw [decide_eq_false (by omega : ¬ D' < 1), decide_eq_false (by omega : ¬ D < D')]; rfl, HR4⟩
  case rest =>
  obtain ⟨rfl, HR5⟩ := hcut
  clear c0 c1 c2 c3 r0 r1 r2 r3 r4 HR4 HDM HF6
  obtain ⟨r0, r1, r2, r3, r4, _⟩ := HR5.out.box
  obtain ⟨c0, c1, c2, c3⟩ := HR5.out.lm.box
  go_wp2_with fail
  refine (HWB.out _).mono ?_
  rintro e w6 ⟨rfl, hb⟩
  have hn := below_alloc (Below.refl w6.heap.size w6) (.cells #[.int .i64 a, .int .i64 b, .int .i64 s, .int .i64 D', .bool true] 41)
  have HR7 := Aside0.mk (And.intro ((HR5.out.below hb).below hn) (BoxR.new w6 a b s D' true 41))
  clear hb hn c0 c1 c2 c3 r0 r1 r2 r3 r4 HR5
  go_upto_region 14 with fail
  generalize w6.heap.size = qb at *
  generalize w6.alloc (.cells #[.int .i64 a, .int .i64 b, .int .i64 s, .int .i64 D', .bool true] 41) = w7 at *
  have r0 := fun z : BelowOf w7 => z.cell HR7.out.1.box.r0
  have r1 := fun z : BelowOf w7 => z.cell HR7.out.1.box.r1
  have r2 := fun z : BelowOf w7 => z.cell HR7.out.1.box.r2
  have r3 := fun z : BelowOf w7 => z.cell HR7.out.1.box.r3
  have r4 := fun z : BelowOf w7 => z.cell HR7.out.1.box.r4
  have q0 := fun z : BelowOf w7 => z.cell HR7.out.2.r0
  have q1 := fun z : BelowOf w7 => z.cell HR7.out.2.r1
  have q2 := fun z : BelowOf w7 => z.cell HR7.out.2.r2
  have q3 := fun z : BelowOf w7 => z.cell HR7.out.2.r3
  have q4 := fun z : BelowOf w7 => z.cell HR7.out.2.r4
  refine wp_region_below (by kernel_rfl) ?_
  repeat (quiet_step (first
    | (go_at_call 14; exact BelowOf.calls (HTD.out a b s D' true _))
    | (go_at_call 8; exact BelowOf.calls (HLV.out _ (HT.out _ (below_go HR7.out.1.lm.bel (BelowOf.bel _)))))))
  refine wpQuiet_nil ?_
  rintro w8 ⟨⟨_, hb⟩, rfl⟩
  have HW8 := Aside0.mk (below_go HR7.out.1.lm.bel hb)
  clear hb r0 r1 r2 r3 r4 q0 q1 q2 q3 q4 HR7
  go_wp2_with fail
  go_ret
  exact ⟨rfl, HW8.out⟩
end Go.Proofs.YtafmapadkpjliaaGreatDoor.K
