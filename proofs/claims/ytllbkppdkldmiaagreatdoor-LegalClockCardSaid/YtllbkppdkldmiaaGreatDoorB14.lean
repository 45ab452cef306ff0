/- Walks and plain laws that several statements lean on, joined: no statement of the seat is proved here. -/
import Derived.StillTailTactics
import Derived.Test.YtllbkppdkldmiaaGreatDoorB13
import Derived.Test.YtllbkppdkldmiaaGreatDoorB6
import Derived.Test.YtllbkppdkldmiaaGreatDoorB12

/- Walks: legal.safe, Moves, Captures, Is. -/
namespace Go.Proofs.YtllbkppdkldmiaaGreatDoor.K
open Go.RowKit Go.Lib Go.Proofs.YtllbkppdkldmiaaGreatDoorW.PrintWords Go.Proofs.YtllbkppdkldmiaaGreatDoor.Sp
set_option linter.unusedVariables false
set_option linter.unusedSimpArgs false
/-- The boxes of a position and of a move. -/
structure PmAt (w0 W : World) (p : Pos) (m : Mvi) : Prop where
  box : BoxP W w0.heap.size p
  d0 : W.cell? ⟨w0.heap.size + 1, 0, none⟩ = some (.int .i64 m.frm)
  d1 : W.cell? ⟨w0.heap.size + 1, 1, none⟩ = some (.int .i64 m.dest)
  bel : Below w0.heap.size w0 W
theorem PmAt.below {w0 W W' : World} {p : Pos} {m : Mvi} (h : PmAt w0 W p m) (hb : Below W.heap.size W W') : PmAt w0 W' p m :=
  ⟨h.box.below hb, below_cell hb _ _ _ h.d0, below_cell hb _ _ _ h.d1, below_go h.bel hb⟩
theorem PmAt.drew {w0 W : World} {p : Pos} {m : Mvi} (h : PmAt w0 W p m) : PmAt w0 W.drew p m := h.below (pw_below_drewN (Below.refl _ _) 1)
theorem PmAt.new (w : World) (p : Pos) (m : Mvi) : PmAt w ((w.alloc (.cells #[.string p.cells, .int .i64 p.side, .int .i64 p.clock, .int .i64 p.full] 33)).alloc (.cells #[.int .i64 m.frm, .int .i64 m.dest] 49)) p m :=
  ⟨(BoxP.new w p).below (below_alloc (Below.refl _ _) _), by simp [World.cell?_alloc_at], by simp [World.cell?_alloc_at], below_alloc (below_alloc (Below.refl _ _) _) _⟩
set_option maxRecDepth 100000 in
set_option maxHeartbeats 4000000 in
theorem safe_c (p : Pos) (m : Mvi) (w : World) (hT : TabW w) : Calls Tryz.prog 78 #[posV p, mviV m] w fun e w' => e = .returned (.bool (safeS p m)) ∧ Below w.heap.size w w' := by
  have HT := Aside0.mk (fun (W : World) (hb : Below w.heap.size w W) => hT.below hb)
  have HAP := Aside0.mk (fun W => apply_c p m W)
  have HS := Aside0.mk (show safeS p m = ((applyP p m).2.2 == 0 && wellS (applyP p m).1 == 0) from rfl)
  have HA := Aside0.mk (PmAt.new w p m)
  unfold ApplyIs at HAP
  generalize applyP p m = r at *
  obtain ⟨q, c, er⟩ := r
  have HWL := Aside0.mk (fun (W : World) (hT : TabW W) => well_c q W hT)
  have hu := Tryz.underlying33
  have hu2 := Tryz.underlying49
  clear hT
  cases h0 : (er == 0)
  all_goals
    have H0 := Aside0.mk h0
    go_enter Tryz.func78, Tryz.ntmps78
    go_wp2_with fail
    refine (HAP.out _).mono ?_
    rintro e w1 ⟨rfl, hb⟩
    have HB := Aside0.mk (HA.out.below hb).bel
    have HQ := Aside0.mk (BoxP.new w1 q)
    clear hb
    go_wp2_with (go_at_call 31; refine (HWL.out _ (HT.out _ (below_new HB.out _))).mono ?_; rintro e w2 ⟨rfl, hb⟩; have HC := Aside0.mk (below_go (below_new HB.out _) hb); clear hb)
    go_ret
    first
    | (refine ⟨ret_bool ?_, HC.out⟩; rw [HS.out, H0.out]; rfl)
    | (refine ⟨ret_bool ?_, below_new HB.out _⟩; rw [HS.out, H0.out]; rfl)
/-! ### Moves -/
set_option maxRecDepth 100000 in
set_option maxHeartbeats 2000000 in
theorem lmoves1_c (p : Pos) (B : Nat) (m : Mv) (w : World) (hx : BoxP w B p) (hT : TabW w) : Calls Tryz.prog 77 #[mvV m, .pointer (some ⟨B, 0, none⟩)] w fun e w' => e = .returned (.bool (!safeS p (mviOf m))) ∧ Below w.heap.size w w' := by
  have HT := Aside0.mk (fun (W : World) (hb : Below w.heap.size w W) => hT.below hb)
  have HS := Aside0.mk (fun (W : World) (hT : TabW W) => safe_c p (mviOf m) W hT)
  have HB := Aside0.mk (hx.below (below_alloc (Below.refl _ _) (.cells #[.int .i64 (m.1 : Int), .int .i64 (m.2 : Int)] 49)))
  have hu := Tryz.underlying33
  have hu2 := Tryz.underlying49
  generalize safeS p (mviOf m) = r at *
  obtain ⟨c0, c1, c2, c3⟩ := HB.out
  have hne : w.heap.size ≠ B := World.new_ne w _ hx.c0
  clear hT hx
  go_enter Tryz.func77, Tryz.ntmps77
  go_wp2_with (go_at_call 78; refine (HS.out _ (HT.out _ (below_alloc (Below.refl _ _) _))).mono ?_; rintro e w2 ⟨rfl, hb⟩; have HC := Aside0.mk (below_go (below_alloc (Below.refl _ _) _) hb); clear hb)
  go_ret
  exact ⟨rfl, HC.out⟩
theorem keep_box {w W : World} {b B : Nat} {p : Pos} (hk : KeepBut w W b none) (hne : B ≠ b) (hx : BoxP w B p) : BoxP W B p := by
  have key : ∀ i, W.cell? ⟨B, i, none⟩ = w.cell? ⟨B, i, none⟩ := fun i => by
    have := hk.2 B (World.block_lt_of_cell? w ⟨B, 0, none⟩ hx.c0) hne (by simp)
    unfold World.cell?; simp only [this]
  exact ⟨(key 0).trans hx.c0, (key 1).trans hx.c1, (key 2).trans hx.c2, (key 3).trans hx.c3⟩
theorem keep_tab {w W : World} {b : Nat} (hk : KeepBut w W b none) (hne : 1 ≠ b) (hT : TabW w) : TabW W := by
  intro j hj
  have := hk.2 _ hT.lt hne (by simp)
  have h := hT j hj
  unfold World.cell? at h ⊢
  simp only [this]
  exact h
theorem box_tab {w : World} {B : Nat} {p : Pos} (hT : TabW w) (hx : BoxP w B p) : 1 ≠ B := by
  intro he
  have h := hT 0 (by decide)
  have h2 := hx.c0
  rw [← he, h] at h2
  cases h2
theorem lmoves_del (p : Pos) (B : Nat) (v : Value) (l : List Mv) (hl : l.length ≤ 1000000) (W : World) (hx : BoxP W B p) (hT : TabW W) (hBT : 1 < B) (ho : OwnM W (B + 1) v l) :
    Calls Tryz.prog 75 #[v, .func (.func 77) #[] #[.pointer (some ⟨B, 0, none⟩)]] W fun e w' => ∃ v', e = .returned v' ∧ OwnM w' (B + 1) v' (l.filter (fun m => safeS p (mviOf m))) ∧ Below (B + 1) W w' := by
  have := del_M 77 #[.pointer (some ⟨B, 0, none⟩)] (fun m => !safeS p (mviOf m)) (enters_of Tryz.func77 (by kernel_rfl) rfl) (B + 1) v l W (World.block_lt_of_cell? W ⟨B, 0, none⟩ hx.c0) ho hl (by
    intro b hb _ _ W2 m hm hk
    exact lmoves1_c p B m W2 (keep_box hk (by omega) hx) (keep_tab hk (by omega) hT))
  simpa using this
/-- The box of a position's copy, and what is made behind it. -/
structure LmAt (w0 W : World) (p : Pos) : Prop where
  box : BoxP W w0.heap.size p
  bel : Below w0.heap.size w0 W
theorem LmAt.below {w0 W W' : World} {p : Pos} (h : LmAt w0 W p) (hb : Below W.heap.size W W') : LmAt w0 W' p := ⟨h.box.below hb, below_go h.bel hb⟩
theorem LmAt.drew {w0 W : World} {p : Pos} (h : LmAt w0 W p) : LmAt w0 W.drew p := h.below (pw_below_drewN (Below.refl _ _) 1)
theorem LmAt.new (w : World) (p : Pos) : LmAt w (w.alloc (.cells #[.string p.cells, .int .i64 p.side, .int .i64 p.clock, .int .i64 p.full] 33)) p := ⟨BoxP.new w p, below_alloc (Below.refl _ _) _⟩
theorem LmAt.lt {w0 W : World} {p : Pos} (h : LmAt w0 W p) : w0.heap.size < W.heap.size := World.block_lt_of_cell? W ⟨w0.heap.size, 0, none⟩ h.box.c0
/-- Since a world with one block more. -/
theorem below_less {w W W' : World} {B : Nat} (h : Below w.heap.size w W) (hB : w.heap.size ≤ B) (hb : Below B W W') : Below w.heap.size w W' := h.trans (hb.mono hB)
set_option maxRecDepth 100000 in
set_option maxHeartbeats 4000000 in
theorem lmoves_c (p : Pos) (w : World) (hT : TabW w) : Calls Tryz.prog 40 #[posV p] w fun e w' => ∃ v, e = .returned v ∧ OwnM w' w.heap.size v (legalL p) ∧ Below w.heap.size w w' := by
  have HT := Aside0.mk (fun (W : World) (hb : Below w.heap.size w W) => hT.below hb)
  have HLT := Aside0.mk hT.lt
  have HW := Aside0.mk (fun (W : World) (hT : TabW W) => well_c p W hT)
  have HM := Aside0.mk (fun W => moves_c p W)
  have hu := Tryz.underlying33
  have HA := Aside0.mk (LmAt.new w p)
  by_cases hw : wellS p = 0
  case neg =>
    rw [legal_no hw]
    have h2 : (wellS p != 0) = true := by simpa using hw
    clear hw hT HM
    generalize wellS p = r at *
    go_enter Tryz.func40, Tryz.ntmps40
    go_wp2_with (go_at_call 31; refine (HW.out _ (HT.out _ HA.out.bel)).mono ?_; rintro e w1 ⟨rfl, hb⟩; have HB := Aside0.mk (HA.out.below hb).bel; clear hb)
    go_ret
    exact ⟨_, rfl, own_nil _ _ _ _, HB.out⟩
  case pos =>
    have HE := Aside0.mk (show legalL p = (gathP p (fun _ => true)).filter (fun m => safeS p (mviOf m)) from if_pos hw)
    have HL := Aside0.mk (show (gathP p (fun _ => true)).length ≤ 1000000 from Nat.le_trans (gath_len p _) (by omega))
    rw [hw] at HW
    generalize legalL p = ll at *
    generalize gathP p (fun _ => true) = l at *
    clear hw hT
    go_enter Tryz.func40, Tryz.ntmps40
    go_wp2_with fail
    refine (HW.out _ (HT.out _ HA.out.bel)).mono ?_
    rintro e w1 ⟨rfl, hb⟩
    have HB := Aside0.mk (HA.out.below hb)
    clear hb HA
    obtain ⟨c0, c1, c2, c3⟩ := HB.out.box
    go_wp2_with fail
    refine (HM.out _).mono ?_
    rintro e w2 ⟨v, rfl, ho, hb⟩
    have HC := Aside0.mk (HB.out.below hb)
    have HO := Aside0.mk (OwnM.lower ho HB.out.lt)
    clear hb ho HB c0 c1 c2 c3
    go_wp2_with fail
    refine (lmoves_del p _ _ _ HL.out _ HC.out.box (HT.out _ HC.out.bel) HLT.out HO.out).mono ?_
    rintro e w3 ⟨v3, rfl, ho, hb⟩
    rw [← HE.out] at ho
    have HR := Aside0.mk (And.intro (OwnM.lower ho (Nat.le_succ _)) (below_less HC.out.bel (Nat.le_succ _) hb))
    clear ho hb
    go_wp2_with fail
    go_ret
    exact ⟨_, rfl, HR.out.1, HR.out.2⟩
/-! ### Captures -/
set_option maxRecDepth 100000 in
set_option maxHeartbeats 2000000 in
theorem lcap1_c (p : Pos) (B : Nat) (m : Mv) (w : World) (hx : BoxP w B p) : Calls Tryz.prog 80 #[mvV m, .pointer (some ⟨B, 0, none⟩)] w fun e w' => e = .returned (.bool (atS p.cells (m.2 : Int) == 46)) ∧ Below w.heap.size w w' := by
  have HS := Aside0.mk (fun (W : World) => at_c p.cells (m.2 : Int) W)
  have HB := Aside0.mk (hx.below (below_alloc (Below.refl _ _) (.cells #[.int .i64 (m.1 : Int), .int .i64 (m.2 : Int)] 49)))
  have hu := Tryz.underlying33
  have hu2 := Tryz.underlying49
  have q := beq46 (atS p.cells (m.2 : Int))
  generalize atS p.cells (m.2 : Int) = r at *
  obtain ⟨c0, c1, c2, c3⟩ := HB.out
  have hne : w.heap.size ≠ B := World.new_ne w _ hx.c0
  clear hx
  cases h46 : (r == 46)
  all_goals
    rw [h46] at q
    clear h46
    go_enter Tryz.func80, Tryz.ntmps80
    go_wp2_with (go_at_call 27; refine (HS.out _).mono ?_; rintro e w2 ⟨rfl, hb⟩; have HC := Aside0.mk (below_go (below_alloc (Below.refl _ _) _) hb); clear hb)
    go_ret
    exact ⟨rfl, HC.out⟩
def legalC (p : Pos) : List Mv := (legalL p).filter (fun m => atS p.cells (m.2 : Int) != 46)
theorem lcap_del (p : Pos) (B : Nat) (v : Value) (l : List Mv) (hl : l.length ≤ 1000000) (W : World) (hx : BoxP W B p) (ho : OwnM W (B + 1) v l) :
    Calls Tryz.prog 75 #[v, .func (.func 80) #[] #[.pointer (some ⟨B, 0, none⟩)]] W fun e w' => ∃ v', e = .returned v' ∧ OwnM w' (B + 1) v' (l.filter (fun m => atS p.cells (m.2 : Int) != 46)) ∧ Below (B + 1) W w' :=
  del_M 80 #[.pointer (some ⟨B, 0, none⟩)] (fun m => atS p.cells (m.2 : Int) == 46) (enters_of Tryz.func80 (by kernel_rfl) rfl) (B + 1) v l W (World.block_lt_of_cell? W ⟨B, 0, none⟩ hx.c0) ho hl (by
    intro b hb _ _ W2 m hm hk
    exact lcap1_c p B m W2 (keep_box hk (by omega) hx))
set_option maxRecDepth 100000 in
set_option maxHeartbeats 4000000 in
theorem lcap_c (p : Pos) (w : World) (hT : TabW w) : Calls Tryz.prog 42 #[posV p] w fun e w' => ∃ v, e = .returned v ∧ OwnM w' w.heap.size v (legalC p) ∧ Below w.heap.size w w' := by
  have HT := Aside0.mk (fun (W : World) (hb : Below w.heap.size w W) => hT.below hb)
  have HM := Aside0.mk (fun (W : World) (hT : TabW W) => lmoves_c p W hT)
  have hu := Tryz.underlying33
  have HA := Aside0.mk (LmAt.new w p)
  have HL := Aside0.mk (show (legalL p).length ≤ 1000000 from Nat.le_trans (legal_len2 p) (by omega))
  have HE := Aside0.mk (show legalC p = (legalL p).filter (fun m => atS p.cells (m.2 : Int) != 46) from rfl)
  generalize legalC p = ll at *
  generalize legalL p = l at *
  clear hT
  go_enter Tryz.func42, Tryz.ntmps42
  go_wp2_with fail
  refine (HM.out _ (HT.out _ HA.out.bel)).mono ?_
  rintro e w1 ⟨v, rfl, ho, hb⟩
  have HC := Aside0.mk (HA.out.below hb)
  have HO := Aside0.mk (OwnM.lower ho HA.out.lt)
  clear hb ho HA
  go_wp2_with fail
  refine (lcap_del p _ _ _ HL.out _ HC.out.box HO.out).mono ?_
  rintro e w3 ⟨v3, rfl, ho, hb⟩
  rw [← HE.out] at ho
  have HR := Aside0.mk (And.intro (OwnM.lower ho (Nat.le_succ _)) (below_less HC.out.bel (Nat.le_succ _) hb))
  clear ho hb
  go_wp2_with fail
  go_ret
  exact ⟨_, rfl, HR.out.1, HR.out.2⟩
/-! ### Is -/
def isS (p : Pos) (m : Mvi) : Bool := wellS p == 0 && safeS p m
set_option maxRecDepth 100000 in
set_option maxHeartbeats 4000000 in
theorem is8_c (p : Pos) (m : Mvi) (w : World) (hT : TabW w) : Calls Tryz.prog 48 #[posV p, mviV m] w fun e w' => e = .returned (.bool (isS p m)) ∧ Below w.heap.size w w' := by
  have HT := Aside0.mk (fun (W : World) (hb : Below w.heap.size w W) => hT.below hb)
  have HW := Aside0.mk (fun (W : World) (hT : TabW W) => well_c p W hT)
  have HS := Aside0.mk (fun (W : World) (hT : TabW W) => safe_c p m W hT)
  have HE := Aside0.mk (show isS p m = (wellS p == 0 && safeS p m) from rfl)
  have hu := Tryz.underlying33
  have hu2 := Tryz.underlying49
  have HA := Aside0.mk (PmAt.new w p m)
  generalize wellS p = r at *
  generalize safeS p m = sf at *
  clear hT
  cases h0 : (r == 0)
  all_goals
    have H0 := Aside0.mk h0
    go_enter Tryz.func48, Tryz.ntmps48
    go_wp2_with (first
      | (go_at_call 31; refine (HW.out _ (HT.out _ HA.out.bel)).mono ?_; rintro e w1 ⟨rfl, hb⟩; have HB := Aside0.mk (HA.out.below hb); clear hb; obtain ⟨⟨c0, c1, c2, c3⟩, d0, d1, _⟩ := HB.out)
      | (go_at_call 78; refine (HS.out _ (HT.out _ HB.out.bel)).mono ?_; rintro e w2 ⟨rfl, hb⟩; have HC := Aside0.mk (HB.out.below hb); clear hb c0 c1 c2 c3 d0 d1))
    go_ret
    first
    | (refine ⟨ret_bool ?_, HC.out.bel⟩; rw [HE.out, H0.out]; simp)
    | (refine ⟨ret_bool ?_, HB.out.bel⟩; rw [HE.out, H0.out]; rfl)
end Go.Proofs.YtllbkppdkldmiaaGreatDoor.K

/- Walks: slices.ContainsFunc at moves; legal.End, Make. -/
namespace Go.Proofs.YtllbkppdkldmiaaGreatDoor.K
open Go.RowKit Go.Lib Go.Proofs.YtllbkppdkldmiaaGreatDoorW.PrintWords Go.Proofs.YtllbkppdkldmiaaGreatDoor.Sp
set_option linter.unusedVariables false
set_option linter.unusedSimpArgs false
set_option maxRecDepth 100000 in
set_option maxHeartbeats 2000000 in
theorem has_M (g : Nat) (lb : Array Value) (p : Mv → Bool) (eg : ∀ args w, (callFunc g args).run Tryz.prog w = .ok (.enter g args) w) (B : Nat) (v : Value) (xs : List Mv) (w : World)
    (ho : OwnM w B v xs) (hlen : xs.length ≤ 1000000) (hg : ∀ b, B ≤ b → b < w.heap.size → v.ownBlock = some b → GivesM g lb p xs b w) :
    Calls Tryz.prog 81 #[v, .func (.func g) #[] lb] w fun e w' => e = .returned (.bool (xs.any p)) ∧ Below w.heap.size w w' := by
  have HI := Aside0.mk (idx_M g lb p eg B v xs w ho hlen hg)
  clear ho hlen hg eg
  go_enter Tryz.func81, Tryz.ntmps81
  go_wp2_with fail
  refine HI.out.mono ?_
  rintro e w1 ⟨k, rfl, hb, hk⟩
  have HK := Aside0.mk hk
  have HB := Aside0.mk hb
  clear hk hb
  go_wp2_with fail
  go_ret
  refine ⟨ret_bool ?_, HB.out⟩
  rcases HK.out with ⟨rfl, hn⟩ | ⟨h0, h1, hit, _⟩
  · rw [show decide ((0 : Int) ≤ -1) = false by decide]
    symm
    rw [List.any_eq_false]
    intro x hx
    rw [hn x hx]; simp
  · rw [decide_eq_true h0]
    symm
    rw [List.any_eq_true]
    refine ⟨_, ?_, hit⟩
    rw [List.getD_eq_getElem?_getD, List.getElem?_eq_getElem (show k.toNat < xs.length by omega)]
    exact List.getElem_mem _
set_option maxRecDepth 100000 in
set_option maxHeartbeats 2000000 in
theorem lend1_c (p : Pos) (B : Nat) (m : Mv) (w : World) (hx : BoxP w B p) (hT : TabW w) : Calls Tryz.prog 82 #[mvV m, .pointer (some ⟨B, 0, none⟩)] w fun e w' => e = .returned (.bool (safeS p (mviOf m))) ∧ Below w.heap.size w w' := by
  have HT := Aside0.mk (fun (W : World) (hb : Below w.heap.size w W) => hT.below hb)
  have HS := Aside0.mk (fun (W : World) (hT : TabW W) => safe_c p (mviOf m) W hT)
  have HB := Aside0.mk (hx.below (below_alloc (Below.refl _ _) (.cells #[.int .i64 (m.1 : Int), .int .i64 (m.2 : Int)] 49)))
  have hu := Tryz.underlying33
  have hu2 := Tryz.underlying49
  generalize safeS p (mviOf m) = r at *
  obtain ⟨c0, c1, c2, c3⟩ := HB.out
  have hne : w.heap.size ≠ B := World.new_ne w _ hx.c0
  clear hT hx
  go_enter Tryz.func82, Tryz.ntmps82
  go_wp2_with (go_at_call 78; refine (HS.out _ (HT.out _ (below_alloc (Below.refl _ _) _))).mono ?_; rintro e w2 ⟨rfl, hb⟩; have HC := Aside0.mk (below_go (below_alloc (Below.refl _ _) _) hb); clear hb)
  go_ret
  exact ⟨rfl, HC.out⟩
theorem lend_any (p : Pos) (B : Nat) (v : Value) (l : List Mv) (hl : l.length ≤ 1000000) (W : World) (hx : BoxP W B p) (hT : TabW W) (hBT : 1 < B) (ho : OwnM W (B + 1) v l) :
    Calls Tryz.prog 81 #[v, .func (.func 82) #[] #[.pointer (some ⟨B, 0, none⟩)]] W fun e w' => e = .returned (.bool (l.any (fun m => safeS p (mviOf m)))) ∧ Below W.heap.size W w' :=
  has_M 82 #[.pointer (some ⟨B, 0, none⟩)] (fun m => safeS p (mviOf m)) (enters_of Tryz.func82 (by kernel_rfl) rfl) (B + 1) v l W ho hl (by
    intro b hb _ _ W2 m hm hk
    exact lend1_c p B m W2 (keep_box hk (by omega) hx) (keep_tab hk (by omega) hT))
set_option maxRecDepth 100000 in
set_option maxHeartbeats 4000000 in
theorem lend_c (p : Pos) (w : World) (hT : TabW w) : Calls Tryz.prog 44 #[posV p] w fun e w' => e = .returned (.int .i64 (endS p)) ∧ Below w.heap.size w w' := by
  have HT := Aside0.mk (fun (W : World) (hb : Below w.heap.size w W) => hT.below hb)
  have HLT := Aside0.mk hT.lt
  have HW := Aside0.mk (fun (W : World) (hT : TabW W) => well_c p W hT)
  have HM := Aside0.mk (fun W => moves_c p W)
  have HI := Aside0.mk (fun (W : World) (hT : TabW W) => in_c p.cells p.side W hT)
  have HE := Aside0.mk (show endS p = if wellS p ≠ 0 then 0 else if (gathP p (fun _ => true)).any (fun m => safeS p (mviOf m)) = true then 0 else if inS p.cells p.side = true then 1 else 2 from rfl)
  have hu := Tryz.underlying33
  have HA := Aside0.mk (LmAt.new w p)
  have HL := Aside0.mk (show (gathP p (fun _ => true)).length ≤ 1000000 from Nat.le_trans (gath_len p _) (by omega))
  generalize endS p = en at *
  generalize gathP p (fun _ => true) = l at *
  clear hT
  cases h0 : (wellS p != 0)
  case true =>
    have H0 := Aside0.mk h0
    generalize wellS p = r at *
    clear HM HI HL
    go_enter Tryz.func44, Tryz.ntmps44
    go_wp2_with (go_at_call 31; refine (HW.out _ (HT.out _ HA.out.bel)).mono ?_; rintro e w1 ⟨rfl, hb⟩; have HB := Aside0.mk (HA.out.below hb).bel; clear hb)
    go_ret
    refine ⟨ret_int ?_, HB.out⟩
    rw [HE.out, if_pos (by simpa using H0.out)]
  case false =>
    have H0 := Aside0.mk h0
    generalize wellS p = r at *
    cases h1 : l.any (fun m => safeS p (mviOf m))
    case true =>
      have H1 := Aside0.mk h1
      clear HI
      go_enter Tryz.func44, Tryz.ntmps44
      go_wp2_with (first
        | (go_at_call 31; refine (HW.out _ (HT.out _ HA.out.bel)).mono ?_; rintro e w1 ⟨rfl, hb⟩; have HB := Aside0.mk (HA.out.below hb); clear hb; obtain ⟨c0, c1, c2, c3⟩ := HB.out.box)
        | (go_at_call 76; refine (HM.out _).mono ?_; rintro e w2 ⟨v, rfl, ho, hb⟩; have HC := Aside0.mk (HB.out.below hb); have HO := Aside0.mk (OwnM.lower ho HB.out.lt); clear hb ho c0 c1 c2 c3)
        | (go_at_call 81; refine (lend_any p _ _ _ HL.out _ HC.out.box (HT.out _ HC.out.bel) HLT.out HO.out).mono ?_; rw [H1.out]; rintro e w3 ⟨rfl, hb⟩; have HD := Aside0.mk (HC.out.below hb).bel; clear hb))
      go_ret
      refine ⟨ret_int ?_, HD.out⟩
      rw [HE.out, if_neg (by simpa using H0.out), if_pos H1.out]
    case false =>
      have H1 := Aside0.mk h1
      cases h2 : inS p.cells p.side
      all_goals
        have H2 := Aside0.mk h2
        rw [h2] at HI
        clear h1 h2
        go_enter Tryz.func44, Tryz.ntmps44
        go_wp2_with (first
          | (go_at_call 31; refine (HW.out _ (HT.out _ HA.out.bel)).mono ?_; rintro e w1 ⟨rfl, hb⟩; have HB := Aside0.mk (HA.out.below hb); clear hb; obtain ⟨c0, c1, c2, c3⟩ := HB.out.box)
          | (go_at_call 76; refine (HM.out _).mono ?_; rintro e w2 ⟨v, rfl, ho, hb⟩; have HC := Aside0.mk (HB.out.below hb); have HO := Aside0.mk (OwnM.lower ho HB.out.lt); clear hb ho c0 c1 c2 c3)
          | (go_at_call 81; refine (lend_any p _ _ _ HL.out _ HC.out.box (HT.out _ HC.out.bel) HLT.out HO.out).mono ?_; rw [H1.out]; rintro e w3 ⟨rfl, hb⟩; have HD := Aside0.mk (HC.out.below hb); clear hb; obtain ⟨c0, c1, c2, c3⟩ := HD.out.box)
          | (go_at_call 24; refine (HI.out _ (HT.out _ HD.out.bel)).mono ?_; rintro e w4 ⟨rfl, hb⟩; have HF := Aside0.mk (HD.out.below hb).bel; clear hb c0 c1 c2 c3))
        go_ret
        refine ⟨ret_int ?_, HF.out⟩
        rw [HE.out, if_neg (by simpa using H0.out), if_neg (by rw [H1.out]; simp), H2.out]; rfl
/-! ### Make -/
def MakeIs (w : World) (p : Pos) (m : Mvi) (e : Ending) (w' : World) : Prop :=
  e = .returned (.tuple #[posV (makeP p m).1, .int .u8 ((makeP p m).2.1 : Int), .int .i64 (makeP p m).2.2]) ∧ Below w.heap.size w w'
set_option maxRecDepth 100000 in
set_option maxHeartbeats 4000000 in
theorem make_c (p : Pos) (m : Mvi) (w : World) (hT : TabW w) : Calls Tryz.prog 46 #[posV p, mviV m] w (MakeIs w p m) := by
  have HT := Aside0.mk (fun (W : World) (hb : Below w.heap.size w W) => hT.below hb)
  have HW := Aside0.mk (fun (W : World) (hT : TabW W) => well_c p W hT)
  have HS := Aside0.mk (fun (W : World) (hT : TabW W) => safe_c p m W hT)
  have HAP := Aside0.mk (fun W => apply_c p m W)
  have hu := Tryz.underlying33
  have hu2 := Tryz.underlying49
  have HE := Aside0.mk (show makeP p m = if wellS p ≠ 0 then (zeroP, 0, wellS p) else if safeS p m = false then (zeroP, 0, 7) else applyP p m from rfl)
  have HA := Aside0.mk (apat_new w p m)
  unfold ApplyIs at HAP
  generalize applyP p m = r at *
  obtain ⟨q, c, er⟩ := r
  generalize safeS p m = sf at *
  clear hT
  cases h0 : (wellS p != 0)
  case true =>
    have HR := Aside0.mk (show makeP p m = (zeroP, 0, wellS p) by rw [HE.out, if_pos (by simpa using h0)])
    clear HE HS HAP
    generalize wellS p = r at *
    go_enter Tryz.func46, Tryz.ntmps46
    go_wp2_with fail
    refine (HW.out _ (HT.out _ HA.out.bel)).mono ?_
    rintro e w1 ⟨rfl, hb⟩
    have HB := Aside0.mk (HA.out.below hb)
    clear hb HA
    have fr := HB.out.fr
    have r0 := HB.out.r0
    have r1 := HB.out.r1
    have r2 := HB.out.r2
    have r3 := HB.out.r3
    go_wp2_with fail
    refine bodyPost_ret (by simp [results, Tryz.results46, go_sem, r0, r1, r2, r3]; try rfl) rfl ?_
    exact ⟨by rw [HR.out]; rfl, by (repeat' (first | (with_reducible exact Below.refl _ _) | (with_reducible refine pw_below_drewN ?_ _) | (with_reducible refine below_alloc ?_ _) | (with_reducible refine Below.drew ?_) | (with_reducible refine Below.setCell ?_ ?_ _) | (simp; done))) <;> first | exact HB.out.bel | (simp; done) | (simp; omega)⟩
  case false =>
    have hw : wellS p = 0 := by simpa using h0
    rw [hw] at HW HE
    cases sf
    case false =>
      have HR := Aside0.mk (show makeP p m = (zeroP, 0, 7) by rw [HE.out]; rfl)
      clear HE HAP h0 hw
      go_enter Tryz.func46, Tryz.ntmps46
      go_wp2_with fail
      refine (HW.out _ (HT.out _ HA.out.bel)).mono ?_
      rintro e w1 ⟨rfl, hb⟩
      have HB := Aside0.mk (HA.out.below hb)
      clear hb HA
      have c0 := HB.out.c0
      have c1 := HB.out.c1
      have c2 := HB.out.c2
      have c3 := HB.out.c3
      have d0 := HB.out.d0
      have d1 := HB.out.d1
      go_wp2_with fail
      refine (HS.out _ (HT.out _ HB.out.bel)).mono ?_
      rintro e w2 ⟨rfl, hb⟩
      have HC := Aside0.mk (HB.out.below hb)
      clear hb HB c0 c1 c2 c3 d0 d1
      have fr := HC.out.fr
      have r0 := HC.out.r0
      have r1 := HC.out.r1
      have r2 := HC.out.r2
      have r3 := HC.out.r3
      go_wp2_with fail
      refine bodyPost_ret (by simp [results, Tryz.results46, go_sem, r0, r1, r2, r3]; try rfl) rfl ?_
      exact ⟨by rw [HR.out]; rfl, by (repeat' (first | (with_reducible exact Below.refl _ _) | (with_reducible refine pw_below_drewN ?_ _) | (with_reducible refine below_alloc ?_ _) | (with_reducible refine Below.drew ?_) | (with_reducible refine Below.setCell ?_ ?_ _) | (simp; done))) <;> first | exact HC.out.bel | (simp; done) | (simp; omega)⟩
    case true =>
      have HR := Aside0.mk (show makeP p m = (q, c, er) by rw [HE.out]; rfl)
      clear HE h0 hw
      go_enter Tryz.func46, Tryz.ntmps46
      go_wp2_with fail
      refine (HW.out _ (HT.out _ HA.out.bel)).mono ?_
      rintro e w1 ⟨rfl, hb⟩
      have HB := Aside0.mk (HA.out.below hb)
      clear hb HA
      have c0 := HB.out.c0
      have c1 := HB.out.c1
      have c2 := HB.out.c2
      have c3 := HB.out.c3
      have d0 := HB.out.d0
      have d1 := HB.out.d1
      go_wp2_with fail
      refine (HS.out _ (HT.out _ HB.out.bel)).mono ?_
      rintro e w2 ⟨rfl, hb⟩
      have HC := Aside0.mk (HB.out.below hb)
      clear hb HB c0 c1 c2 c3 d0 d1
      have c0 := HC.out.c0
      have c1 := HC.out.c1
      have c2 := HC.out.c2
      have c3 := HC.out.c3
      have d0 := HC.out.d0
      have d1 := HC.out.d1
      go_wp2_with fail
      refine (HAP.out _).mono ?_
      rintro e w3 ⟨rfl, hb⟩
      have HD := Aside0.mk (HC.out.below hb)
      clear hb HC c0 c1 c2 c3 d0 d1
      have fr := HD.out.fr
      have r0 := HD.out.r0
      have r1 := HD.out.r1
      have r2 := HD.out.r2
      have r3 := HD.out.r3
      go_wp2_with fail
      refine bodyPost_ret (by simp [results, Tryz.results46, go_sem, r0, r1, r2, r3]; try rfl) rfl ?_
      exact ⟨by rw [HR.out], by (repeat' (first | (with_reducible exact Below.refl _ _) | (with_reducible refine pw_below_drewN ?_ _) | (with_reducible refine below_alloc ?_ _) | (with_reducible refine Below.drew ?_) | (with_reducible refine Below.setCell ?_ ?_ _) | (simp; done))) <;> first | exact HD.out.bel | (simp; done) | (simp; omega)⟩
end Go.Proofs.YtllbkppdkldmiaaGreatDoor.K

/- Walks: the reference's moves of a position. -/
namespace Go.Proofs.YtllbkppdkldmiaaGreatDoor.K
open Go.RowKit Go.Lib Go.Proofs.YtllbkppdkldmiaaGreatDoorW.PrintWords Go.Proofs.YtllbkppdkldmiaaGreatDoor.Sp
set_option linter.unusedVariables false
set_option linter.unusedSimpArgs false
attribute [local go_sem] cel_get   -- for this text's walks alone
/-- The moves from a square to the first j squares. -/
def uptoM (s : ByteArray) (a j : Nat) : List Mv := ((List.range j).filter (fastN (cel s) a)).map (fun b => (a, b))
theorem uptoM_succ (s : ByteArray) (a j : Nat) : uptoM s a (j + 1) = uptoM s a j ++ (if fastN (cel s) a j = true then [(a, j)] else []) := by
  unfold uptoM
  rw [List.range_succ, List.filter_append, List.map_append]
  congr 1
  cases h : fastN (cel s) a j <;> simp [h]
theorem uptoM_len (s : ByteArray) (a j : Nat) : (uptoM s a j).length ≤ j := by
  unfold uptoM
  rw [List.length_map]
  exact Nat.le_trans (List.length_filter_le _ _) (by simp)
theorem fromM_all (s : ByteArray) (side : Int) (a : Nat) : fromM s side (fun _ => true) a = if sideN (cel s a) = side then uptoM s a 90 else [] := by
  unfold fromM uptoM allN
  split
  · simp
  · rfl
/-- What the reference's loops keep. -/
structure OfAt (w0 W : World) (v : Value) (l : List Mv) : Prop where
  own : OwnM W w0.heap.size v l
  bel : Below w0.heap.size w0 W
theorem OfAt.below {w0 W W' : World} {v : Value} {l : List Mv} (h : OfAt w0 W v l) (hb : Below W.heap.size W W') : OfAt w0 W' v l := ⟨h.own.below hb, below_go h.bel hb⟩
theorem OfAt.grown {w0 W W1 : World} {v v1 : Value} {l l1 : List Mv} (h : OfAt w0 W v l) (hg : W.grownBy W1 v.ownBlock) (ho : OwnM W1 w0.heap.size v1 l1) : OfAt w0 W1 v1 l1 :=
  ⟨ho, h.bel.grown hg h.bel.size (fun k hk => (h.own.lt k hk).1)⟩
set_option maxRecDepth 100000 in
set_option maxHeartbeats 4000000 in
theorem rof_moves (s : ByteArray) (hs : isBoard s = true) (side : Int) (w : World) :
    Calls Tryz.prog 86 #[.string s, .int .i64 side] w fun e w' => ∃ v, e = .returned v ∧ OwnM w' w.heap.size v (gathM s side (fun _ => true) 90) ∧ Below w.heap.size w w' := by
  have HSD := Aside0.mk (fun a W => rside_c (cel s a) (cel_lt s a) W)
  have HFA := Aside0.mk (fun a b ha hb W => rfast_c s hs a b ha hb W)
  have HSZ := Aside0.mk (board_size hs)
  obtain ⟨i0, hi0, hx⟩ := Option.map_eq_some_iff.1 info_move
  simp only [Prod.mk.injEq] at hx
  have HZ := Aside0.mk (⟨hi0, hx⟩ : _ ∧ _)
  clear hx hi0 hs
  go_enter Tryz.func86, Tryz.ntmps86
  go_wp2_with fail
  go_loopg [5, 6, 7] 90 (fun gg s5 s6 _ wr => ∃ i : Nat, s6 = .int .i64 (i : Int) ∧ i + gg = 90 ∧ Aside0 (OfAt w wr s5 (gathM s side (fun _ => true) i)))
  case atStart => exact ⟨0, rfl, by omega, ⟨⟨own_nil _ _ _ _, Below.refl _ _⟩⟩⟩
  case round =>
    obtain ⟨i, rfl, hi, HG⟩ := hrel
    cases gk with
    | zero =>
      have hn : ¬ ((i : Int) < 90) := by omega
      have HI := Aside0.mk (show i = 90 by omega)
      clear hi
      go_wp2_with fail
      go_ret
      refine ⟨_, rfl, ?_, HG.out.bel⟩
      have := HG.out.own
      rw [HI.out] at this
      exact this
    | succ g2 =>
      have hn : ((i : Int) < 90) := by omega
      have hi90 : i < 90 := by omega
      have HI := Aside0.mk (show i + 1 + g2 = 90 by omega)
      have hsz : (i : Int) < s.size := by rw [HSZ.out]; omega
      have HSC := Aside0.mk (gathM_succ s side (fun _ => true) i)
      have HFR := Aside0.mk (fromM_all s side i)
      have HFI := Aside0.mk (fun b hb W => HFA.out i b hi90 hb W)
      have HGL := Aside0.mk (gathM_len s side (fun _ => true) i)
      have HSI := Aside0.mk (fun W => HSD.out i W)
      have HI90 := Aside0.mk hi90
      clear hi hi90
      generalize hsd : sideN (cel s i) = sd at *
      cases hq : (sd != side)
      case true =>
        have HE := Aside0.mk (show fromM s side (fun _ => true) i = [] by rw [HFR.out, if_neg (by simpa using hq)])
        clear hsd
        go_wp2_with (go_at_call 34; refine (HSI.out _).mono ?_; rintro e w1 ⟨rfl, rfl⟩)
        go_roundg g2
        case measure => omega
        case rel =>
          refine ⟨i + 1, by go_num, HI.out, ⟨?_⟩⟩
          rw [HSC.out, HE.out, List.append_nil]
          exact HG.out
      case false =>
      have HE := Aside0.mk (show fromM s side (fun _ => true) i = uptoM s i 90 by rw [HFR.out, if_pos (by simpa using hq)])
      clear hsd
      go_wp2_with (go_at_call 34; refine (HSI.out _).mono ?_; rintro e w1 ⟨rfl, rfl⟩)
      go_loopg [5, 7] 90 (fun gg s5 s7 wr => ∃ j : Nat, s7 = .int .i64 (j : Int) ∧ j + gg = 90 ∧ Aside0 (OfAt w wr s5 (gathM s side (fun _ => true) i ++ uptoM s i j)))
      case atStart => exact ⟨0, rfl, by omega, ⟨by rw [show uptoM s i 0 = [] from rfl, List.append_nil]; exact HG.out⟩⟩
      case round =>
      clear HG
      obtain ⟨j, rfl, hj, HG⟩ := hrel
      cases gk with
      | zero =>
        have hjn : ¬ ((j : Int) < 90) := by omega
        have HJ := Aside0.mk (show j = 90 by omega)
        clear hj
        go_wp2_with fail
        go_roundg g2
        case measure => omega
        case rel =>
          refine ⟨i + 1, by go_num, HI.out, ⟨?_⟩⟩
          have := HG.out
          rw [HJ.out, ← HE.out, ← HSC.out] at this
          exact this
      | succ g3 =>
        have hjn : ((j : Int) < 90) := by omega
        have HJ := Aside0.mk (show j + 1 + g3 = 90 by omega)
        have HFJ := Aside0.mk (fun W => HFI.out j (by omega) W)
        have HUS := Aside0.mk (uptoM_succ s i j)
        have HUL := Aside0.mk (uptoM_len s i j)
        clear hj
        cases hf : fastN (cel s) i j
        case false =>
          rw [hf] at HFJ HUS
          go_wp2_with (go_at_call 59; refine (HFJ.out _).mono ?_; rintro e w3 ⟨rfl, rfl⟩)
          go_roundg g3
          case measure => omega
          case rel =>
            refine ⟨j + 1, by go_num, HJ.out, ⟨?_⟩⟩
            rw [HUS.out, if_neg (by simp), List.append_nil]
            exact HG.out
        case true =>
          rw [hf] at HFJ HUS
          have HNW := Aside0.mk (show gathM s side (fun _ => true) i ++ uptoM s i (j + 1) = gathM s side (fun _ => true) i ++ uptoM s i j ++ [(i, j)] by rw [HUS.out, if_pos rfl, List.append_assoc])
          have HLN := Aside0.mk (show (gathM s side (fun _ => true) i ++ uptoM s i j).length ≤ 8190 by rw [List.length_append]; have := HGL.out; have := HUL.out; have := HI90.out; have := HJ.out; omega)
          generalize gathM s side (fun _ => true) i ++ uptoM s i j = L at *
          go_wp2_with (first | (go_at_call 59; refine (HFJ.out _).mono ?_; rintro e w3 ⟨rfl, rfl⟩) | (at_builtin; refine hold ?_))
          refine Hold.go ?_
          refine wpList_append_lies _ (by rfl) _ _ _ (by rfl) w.heap.size 49 i0 _ 2 16 Tryz.underlying45 HZ.out.1 HZ.out.2.1 HZ.out.2.2.1 HZ.out.2.2.2 rfl (by omega) _ L.length (flatM L) (by rfl) (HG.out.own.below (below_alloc (Below.refl _ _) _)) ⟨_, 0, none⟩ 1 1 (mvC (i, j)) (by rfl) (by rfl) (World.news_of_block (cs := #[.int .i64 (i : Int), .int .i64 (j : Int)]) (t := 49) (fr := (0, 0)) (news_own _ _)) (by simp [Value.oneCell', mvC]) (by omega) (by have := HLN.out; unfold maxLen; omega) (by have := HLN.out; omega) (by have := HG.out.bel.size; simp; omega) _ rfl ?_
          intro gg cap1 w1 hown1 hgrow hat hlt1
          have HO := Aside0.mk (show OfAt w w1 (.slice (some ⟨gg, 0, none⟩) (L.length + 1) cap1) (L ++ [(i, j)]) from (HG.out.below (below_alloc (Below.refl _ _) _)).grown hgrow (by unfold OwnM; rw [flatM_append, List.length_append]; exact hown1))
          clear hown1 hgrow hat hlt1 HG
          go_wp2_with fail
          go_roundg g3
          case measure => omega
          case rel => exact ⟨j + 1, by go_num, HJ.out, ⟨by rw [HNW.out]; exact HO.out⟩⟩
end Go.Proofs.YtllbkppdkldmiaaGreatDoor.K

/- Walks: the reference's Moves, Captures, Same; PseudoMoves. -/
namespace Go.Proofs.YtllbkppdkldmiaaGreatDoor.K
open Go.RowKit Go.Lib Go.Proofs.YtllbkppdkldmiaaGreatDoorW.PrintWords Go.Proofs.YtllbkppdkldmiaaGreatDoor.Sp
set_option linter.unusedVariables false
set_option linter.unusedSimpArgs false
attribute [local go_sem] cel_get   -- for this text's walks alone
set_option maxRecDepth 100000 in
set_option maxHeartbeats 2000000 in
theorem rmoves_c (p : Pos) (hmx : p.cells.size ≤ maxLen) (w : World) : Calls Tryz.prog 49 #[posV p] w fun e w' => ∃ v, e = .returned v ∧ OwnM w' w.heap.size v (gathP p (fun _ => true)) ∧ Below w.heap.size w w' := by
  have HCK := Aside0.mk (fun W => rcheck_c p hmx W)
  have hu := Tryz.underlying33
  have HB0 := Aside0.mk (BoxP.new w p)
  have HW0 := Aside0.mk (below_new (Below.refl w.heap.size w) (.cells #[.string p.cells, .int .i64 p.side, .int .i64 p.clock, .int .i64 p.full] 33))
  by_cases hck : checkP p = 0
  case neg =>
    rw [show gathP p (fun _ => true) = [] by unfold gathP; rw [if_neg hck]]
    have h2 : (checkP p != 0) = true := by simpa using hck
    clear hck hmx
    generalize checkP p = ck at HCK h2
    go_enter Tryz.func49, Tryz.ntmps49
    go_wp2_with (go_at_call 85; refine (HCK.out _).mono ?_; rintro e w1 ⟨rfl, hb⟩; have HW1 := Aside0.mk (below_go HW0.out hb); clear hb)
    go_ret
    exact ⟨_, rfl, own_nil _ _ _ _, HW1.out⟩
  have hbd := (argOk_yes (checkP_board hck)).1
  rw [show gathP p (fun _ => true) = gathM p.cells p.side (fun _ => true) 90 by unfold gathP; rw [if_pos hck]]
  have HOF := Aside0.mk (fun W => rof_moves p.cells hbd p.side W)
  generalize gathM p.cells p.side (fun _ => true) 90 = l at *
  rw [hck] at HCK
  clear hck hmx hbd
  go_enter Tryz.func49, Tryz.ntmps49
  go_wp2_with fail
  refine (HCK.out _).mono ?_
  rintro e w1 ⟨rfl, hb⟩
  have HB1 := Aside0.mk (HB0.out.below hb)
  have HW1 := Aside0.mk (below_go HW0.out hb)
  clear hb HB0 HW0
  obtain ⟨e0, e1, e2, e3⟩ := HB1.out
  go_wp2_with fail
  refine (HOF.out _).mono ?_
  rintro e w2 ⟨v, rfl, h2, hb⟩
  have HR := Aside0.mk (And.intro (h2.lower HW1.out.size) (below_go HW1.out hb))
  clear h2 hb HB1 HW1 e0 e1 e2 e3
  go_wp2_with fail
  go_ret
  exact ⟨_, rfl, HR.out.1, HR.out.2⟩
/-- What Captures' loop keeps. -/
structure CaAt (w0 W : World) (p : Pos) (v1 v : Value) (l k : List Mv) : Prop where
  box : BoxP W w0.heap.size p
  m1 : MvAt W w0.heap.size v1 l
  own : OwnM W w0.heap.size v k
  far : ∀ g, v.ownBlock = some g → g ≠ w0.heap.size ∧ (l = [] ∨ v1.ownBlock ≠ some g)
  bel : Below w0.heap.size w0 W
theorem CaAt.below {w0 W W' : World} {p : Pos} {v1 v : Value} {l k : List Mv} (h : CaAt w0 W p v1 v l k) (hb : Below W.heap.size W W') : CaAt w0 W' p v1 v l k :=
  ⟨h.box.below hb, h.m1.below hb, h.own.below hb, h.far, below_go h.bel hb⟩
theorem MvAt.other {W W' : World} {B : Nat} {v : Value} {l : List Mv} {row : Option Nat} (h : MvAt W B v l) (hg : W.grownBy W' row) (hne : ∀ g, row = some g → l = [] ∨ v.ownBlock ≠ some g) : MvAt W' B v l := by
  obtain ⟨A, cap, hv, h⟩ := h.out
  refine ⟨A, cap, hv, ?_⟩
  rcases h with h | ⟨g, hA, hB, hlt, hx⟩
  · exact .inl h
  · by_cases hl : l = []
    · exact .inl hl
    have hr : some g ≠ row := fun he => (hne g he.symm).elim hl (fun h => h (by rw [hv, hA]; rfl))
    exact .inr ⟨g, hA, hB, Nat.lt_of_lt_of_le hlt hg.size, fun i hi => ⟨(hg.cell_far ⟨g, i * 2, none⟩ hlt hr).trans (hx i hi).1, (hg.cell_far ⟨g, i * 2 + 1, none⟩ hlt hr).trans (hx i hi).2⟩⟩
theorem BoxP.other {W W' : World} {b : Nat} {p : Pos} {row : Option Nat} (h : BoxP W b p) (hg : W.grownBy W' row) (hne : some b ≠ row) : BoxP W' b p := by
  have hlt : b < W.heap.size := World.block_lt_of_cell? W ⟨b, 0, none⟩ h.c0
  exact ⟨(hg.cell_far ⟨b, 0, none⟩ hlt hne).trans h.c0, (hg.cell_far ⟨b, 1, none⟩ hlt hne).trans h.c1, (hg.cell_far ⟨b, 2, none⟩ hlt hne).trans h.c2, (hg.cell_far ⟨b, 3, none⟩ hlt hne).trans h.c3⟩
theorem CaAt.grown {w0 W W1 : World} {p : Pos} {v1 v : Value} {l k k1 : List Mv} {gg n cap : Nat} (h : CaAt w0 W p v1 v l k) (hg : W.grownBy W1 v.ownBlock) (ho : OwnM W1 w0.heap.size (.slice (some ⟨gg, 0, none⟩) n cap) k1) (hat : v.ownBlock = some gg ∨ gg = W.heap.size) : CaAt w0 W1 p v1 (.slice (some ⟨gg, 0, none⟩) n cap) l k1 := by
  have hlt : w0.heap.size < W.heap.size := World.block_lt_of_cell? W ⟨w0.heap.size, 0, none⟩ h.box.c0
  refine ⟨h.box.other hg (fun he => (h.far _ he.symm).1 rfl), h.m1.other hg (fun g he => (h.far g he).2), ho, ?_, h.bel.grown hg h.bel.size (fun k hk => (h.own.lt k hk).1)⟩
  intro g he
  simp only [Value.ownBlock, Option.some.injEq] at he
  subst he
  rcases hat with hat | hat
  · exact h.far _ hat
  · subst hat
    obtain ⟨A, c, rfl, hm⟩ := h.m1.out
    rcases hm with hm | ⟨g2, rfl, _, hlt2, _⟩
    · exact ⟨by omega, .inl hm⟩
    · refine ⟨by omega, .inr fun he => ?_⟩
      simp only [Value.ownBlock, Option.some.injEq] at he
      omega
/-- Two rows of the same moves are told to be the same. -/
theorem rsame_c (l : List Mv) (hl : l.length ≤ 8100) (B1 B2 : Nat) (v1 v2 : Value) (w : World) (h1 : MvAt w B1 v1 l) (h2 : MvAt w B2 v2 l) : Calls Tryz.prog 39 #[v1, v2] w fun e w' => e = .returned (.bool true) ∧ Below w.heap.size w w' := by
  obtain ⟨A1, cap1, rfl⟩ := h1.form
  obtain ⟨A2, cap2, rfl⟩ := h2.form
  have HX := Aside0.mk (And.intro h1 h2)
  have HLL := Aside0.mk hl
  have hu2 := Tryz.underlying49
  clear h1 h2 hl
  go_enter Tryz.func39, Tryz.ntmps39
  go_wp2_with fail
  go_loopg [5] l.length (fun gg s5 wr => ∃ i : Nat, s5 = .int .i64 (i : Int) ∧ i + gg = l.length ∧ Aside0 (MvAt wr B1 (.slice A1 l.length cap1) l ∧ MvAt wr B2 (.slice A2 l.length cap2) l) ∧ Aside0 (Below w.heap.size w wr))
  case atStart => exact ⟨0, rfl, by omega, HX, ⟨Below.refl _ _⟩⟩
  case round =>
    clear HX
    obtain ⟨i, rfl, hi, HX, HB⟩ := hrel
    cases gk with
    | zero =>
      have hn : ¬ ((i : Int) < (l.length : Int)) := by omega
      clear hi
      go_wp2_with fail
      go_ret
      exact ⟨rfl, HB.out⟩
    | succ g =>
      have hn : (i : Int) < (l.length : Int) := by omega
      have hil : i < l.length := by omega
      have hib : (i : Int) ≤ 8100 := by have := HLL.out; omega
      have HI := Aside0.mk (show i + 1 + g = l.length by omega)
      obtain ⟨g1, cap1', hA1, _, hg1, hx1⟩ := HX.out.1.at (fun h => by rw [h] at hil; simp at hil)
      simp only [Value.slice.injEq, true_and] at hA1
      obtain ⟨rfl, rfl⟩ := hA1
      obtain ⟨g2, cap2', hA2, _, hg2, hx2⟩ := HX.out.2.at (fun h => by rw [h] at hil; simp at hil)
      simp only [Value.slice.injEq, true_and] at hA2
      obtain ⟨rfl, rfl⟩ := hA2
      obtain ⟨x0, x1⟩ := hx1 i hil
      obtain ⟨y0, y1⟩ := hx2 i hil
      clear hx1 hx2 hi
      generalize l[i] = m at *
      obtain ⟨ma, mb⟩ := m
      simp only at x0 x1 y0 y1
      clear hil
      go_wp2_with fail
      go_quiet (fail)
      go_wp2_with fail
      go_roundg g
      case measure => omega
      case rel => exact ⟨i + 1, by go_num, by have := HI.out; omega, ⟨HX.out.1.below (pw_below_drewN (Below.refl _ _) _), HX.out.2.below (pw_below_drewN (Below.refl _ _) _)⟩, ⟨pw_below_drewN HB.out _⟩⟩
end Go.Proofs.YtllbkppdkldmiaaGreatDoor.K

/- Walks: the reference's Safe, Of, Moves (layer 8). -/
namespace Go.Proofs.YtllbkppdkldmiaaGreatDoor.K
open Go.RowKit Go.Lib Go.Proofs.YtllbkppdkldmiaaGreatDoorW.PrintWords Go.Proofs.YtllbkppdkldmiaaGreatDoor.Sp
set_option linter.unusedVariables false
set_option linter.unusedSimpArgs false
attribute [local go_sem] cel_get   -- for this text's walks alone
set_option maxRecDepth 100000 in
set_option maxHeartbeats 2000000 in
theorem rsafe_c (s : ByteArray) (hmx : s.size ≤ maxLen) (a : Int) (w : World) : Calls Tryz.prog 84 #[.string s, .int .i64 a] w fun e w' => e = .returned (.bool (safeR s a)) ∧ Below w.heap.size w w' := by
  have HF := Aside0.mk (fun (W : World) => rfac_c s hmx W)
  have HI := Aside0.mk (fun (W : World) => rin_c s hmx a W)
  have HE := Aside0.mk (show safeR s a = (!facS s && !inS s a) from rfl)
  generalize facS s = f at *
  generalize inS s a = i at *
  clear hmx
  cases f
  all_goals
    go_enter Tryz.func84, Tryz.ntmps84
    go_wp2_with (first
      | (go_at_call 23; refine (HF.out _).mono ?_; rintro e w1 ⟨rfl, hb⟩; have HB := Aside0.mk hb; clear hb)
      | (go_at_call 25; refine (HI.out _).mono ?_; rintro e w2 ⟨rfl, hb⟩; have HC := Aside0.mk (below_go HB.out hb); clear hb))
    go_ret
    first
    | (refine ⟨ret_bool ?_, HC.out⟩; rw [HE.out]; simp)
    | (refine ⟨ret_bool ?_, HB.out⟩; rw [HE.out]; rfl)
/-- A row of moves that is read beside one that grows. -/
structure Ca2At (w0 W : World) (v1 v : Value) (l k : List Mv) : Prop where
  m1 : MvAt W w0.heap.size v1 l
  own : OwnM W w0.heap.size v k
  far : ∀ g, v.ownBlock = some g → l = [] ∨ v1.ownBlock ≠ some g
  bel : Below w0.heap.size w0 W
theorem Ca2At.below {w0 W W' : World} {v1 v : Value} {l k : List Mv} (h : Ca2At w0 W v1 v l k) (hb : Below W.heap.size W W') : Ca2At w0 W' v1 v l k :=
  ⟨h.m1.below hb, h.own.below hb, h.far, below_go h.bel hb⟩
theorem Ca2At.grown {w0 W W1 : World} {v1 v : Value} {l k k1 : List Mv} {gg n cap : Nat} (h : Ca2At w0 W v1 v l k) (hg : W.grownBy W1 v.ownBlock) (ho : OwnM W1 w0.heap.size (.slice (some ⟨gg, 0, none⟩) n cap) k1) (hat : v.ownBlock = some gg ∨ gg = W.heap.size) : Ca2At w0 W1 v1 (.slice (some ⟨gg, 0, none⟩) n cap) l k1 := by
  refine ⟨h.m1.other hg (fun g he => h.far g he), ho, ?_, h.bel.grown hg h.bel.size (fun k hk => (h.own.lt k hk).1)⟩
  intro g he
  simp only [Value.ownBlock, Option.some.injEq] at he
  subst he
  rcases hat with hat | hat
  · exact h.far _ hat
  · subst hat
    obtain ⟨A, c, rfl, hm⟩ := h.m1.out
    rcases hm with hm | ⟨g2, rfl, _, hlt2, _⟩
    · exact .inl hm
    · refine .inr fun he => ?_
      simp only [Value.ownBlock, Option.some.injEq] at he
      omega
/-- The cells of one move of a row. -/
theorem MvAt.cell {W : World} {B g cap : Nat} {l : List Mv} (h : MvAt W B (.slice (some ⟨g, 0, none⟩) l.length cap) l) (i : Nat) (hi : i < l.length) : W.cell? ⟨g, i * 2, none⟩ = some (.int .i64 (l[i].1 : Int)) ∧ W.cell? ⟨g, i * 2 + 1, none⟩ = some (.int .i64 (l[i].2 : Int)) := by
  obtain ⟨g1, cap1', hA1, _, hg1, hx1⟩ := h.at (fun h => by rw [h] at hi; simp at hi)
  simp only [Value.slice.injEq, Option.some.injEq, Addr.mk.injEq, true_and, and_true] at hA1
  obtain ⟨rfl, rfl⟩ := hA1
  exact hx1 i hi
theorem gathM_mem {s : ByteArray} {side : Int} {q : Nat → Bool} {n : Nat} {m : Mv} (hn : n ≤ 90) (h : m ∈ gathM s side q n) : m.1 < 90 ∧ m.2 < 90 := by
  unfold gathM at h
  obtain ⟨a, ha, hm⟩ := List.mem_flatMap.1 h
  unfold fromM at hm
  split at hm
  · obtain ⟨b, hb, rfl⟩ := List.mem_map.1 hm
    exact ⟨by have := List.mem_range.1 ha; show a < 90; omega, allN_lt _ _ b (List.mem_filter.1 hb).1⟩
  · simp at hm
set_option maxRecDepth 100000 in
set_option maxHeartbeats 4000000 in
theorem rof8_c (s : ByteArray) (hs : isBoard s = true) (side : Int) (w : World) :
    Calls Tryz.prog 79 #[.string s, .int .i64 side] w fun e w' => ∃ v, e = .returned v ∧ OwnM w' w.heap.size v (legalR s side) ∧ Below w.heap.size w w' := by
  have HOF := Aside0.mk (fun W => rof_moves s hs side W)
  have hsz := board_size hs
  have HMV := Aside0.mk (fun (a b : Nat) (ha : a < 90) (hb : b < 90) W => rmoved_c s hsz a b ha hb W)
  have HKD := Aside0.mk (fun (b : Nat) W => rkind_c (cel s b) (cel_lt _ _) W)
  have HSF := Aside0.mk (fun (a b : Nat) W => rsafe_c (movedB s a b) (by rw [moved_size, hsz]; unfold maxLen; omega) side W)
  have HE := Aside0.mk (show legalR s side = (gathM s side (fun _ => true) 90).filter (mayR s side) from rfl)
  have HMR := Aside0.mk (fun m => show mayR s side m = (kindN (cel s m.2) != 75 && safeR (movedB s m.1 m.2) side) from rfl)
  have HMEM := Aside0.mk (fun m (h : m ∈ gathM s side (fun _ => true) 90) => gathM_mem (Nat.le_refl 90) h)
  have HLL := Aside0.mk (gathM_len s side (fun _ => true) 90)
  have HSZ := Aside0.mk hsz
  obtain ⟨i0, hi0, hx⟩ := Option.map_eq_some_iff.1 info_move
  simp only [Prod.mk.injEq] at hx
  have HZ := Aside0.mk (⟨hi0, hx⟩ : _ ∧ _)
  have hu2 := Tryz.underlying49
  generalize legalR s side = lr at *
  generalize gathM s side (fun _ => true) 90 = l at *
  generalize mayR s side = mr at *
  clear hx hi0 hs hsz
  go_enter Tryz.func79, Tryz.ntmps79
  go_wp2_with fail
  refine (HOF.out _).mono ?_
  rintro e w1 ⟨v1, rfl, h1, hb⟩
  have HC := Aside0.mk (show Ca2At w w1 v1 (.slice none 0 0) l [] from ⟨h1.reads, own_nil _ _ _ _, fun g hg => by simp [Value.ownBlock] at hg, hb⟩)
  clear h1 hb
  obtain ⟨A1, cap1, rfl⟩ := HC.out.m1.form
  go_wp2_with fail
  go_loopg [6, 7] l.length (fun gg s6 s7 wr => ∃ i : Nat, s7 = .int .i64 (i : Int) ∧ i + gg = l.length ∧ Aside0 (Ca2At w wr (.slice A1 l.length cap1) s6 l ((l.take i).filter mr)))
  case atStart => exact ⟨0, rfl, by omega, HC⟩
  case round =>
    clear HC
    obtain ⟨i, rfl, hi, HC⟩ := hrel
    cases gk with
    | zero =>
      have hn : ¬ ((i : Int) < (l.length : Int)) := by omega
      have HI := Aside0.mk (show i = l.length by omega)
      clear hi
      go_wp2_with fail
      go_ret
      refine ⟨_, rfl, ?_, HC.out.bel⟩
      have := HC.out.own
      rw [HI.out, List.take_length, ← HE.out] at this
      exact this
    | succ g =>
      have hn : (i : Int) < (l.length : Int) := by omega
      have hil : i < l.length := by omega
      have hib : (i : Int) ≤ 8100 := by have := HLL.out; omega
      have HI := Aside0.mk (show i + 1 + g = l.length by omega)
      have HTF := Aside0.mk (take_filter l mr i hil)
      have HNI := Aside0.mk (show ((l.take i).filter mr).length ≤ 8100 from Nat.le_trans (List.length_filter_le _ _) (Nat.le_trans (by rw [List.length_take]; omega) HLL.out))
      obtain ⟨hma, hmb⟩ := HMEM.out _ (List.getElem_mem hil)
      obtain ⟨g1, cap1', hA1, _, hg1, hx1⟩ := HC.out.m1.at (fun h => by rw [h] at hil; simp at hil)
      simp only [Value.slice.injEq, true_and] at hA1
      obtain ⟨rfl, rfl⟩ := hA1
      obtain ⟨x0, x1⟩ := hx1 i hil
      have HMM := Aside0.mk (HMR.out l[i])
      have HXC := Aside0.mk (fun W (h : MvAt W w.heap.size (.slice (some ⟨g1, 0, none⟩) l.length cap1) l) => h.cell i hil)
      clear hx1 hi
      generalize ((l.take i).filter mr) = fl at *
      generalize l[i] = m at *
      obtain ⟨ma, mb⟩ := m
      simp only at hma hmb x0 x1
      have hm2 : (mb : Int) < (s.size : Int) := by rw [HSZ.out]; omega
      have HMV1 := Aside0.mk (HMV.out ma mb hma hmb)
      have HKD1 := Aside0.mk (HKD.out mb)
      have HSF1 := Aside0.mk (HSF.out ma mb)
      have hkq : ((kindN (cel s mb) : Int) != 75) = !(kindN (cel s mb) == 75) := by rw [bne, kindN_q]
      clear hma hmb hil
      cases hk : (kindN (cel s mb) == 75)
      case true =>
        rw [hk] at hkq
        have HNO := Aside0.mk (show mr (ma, mb) = false by rw [HMM.out]; simp only [bne, hk]; rfl)
        clear hk HMV1 HSF1
        generalize kindN (cel s mb) = kd at *
        go_wp2_with (go_at_call 35; refine (HKD1.out _).mono ?_; rintro e w2 ⟨rfl, rfl⟩)
        go_roundg g
        case measure => omega
        case rel =>
          refine ⟨i + 1, by go_num, by have := HI.out; omega, ⟨?_⟩⟩
          rw [HTF.out, if_neg (by rw [HNO.out]; simp), List.append_nil]
          exact HC.out
      case false =>
        rw [hk] at hkq
        have HYE := Aside0.mk (show mr (ma, mb) = safeR (movedB s ma mb) side by rw [HMM.out]; simp only [bne, hk]; rfl)
        clear hk
        generalize kindN (cel s mb) = kd at *
        generalize safeR (movedB s ma mb) side = sf at *
        generalize movedB s ma mb = mv at *
        cases sf
        case false =>
          go_wp2_with (first
            | (go_at_call 35; refine (HKD1.out _).mono ?_; rintro e w2 ⟨rfl, rfl⟩)
            | (go_at_call 87; refine (HMV1.out _).mono ?_; rintro e w3 ⟨rfl, hb⟩; have HC3 := Aside0.mk (HC.out.below hb); clear hb)
            | (go_at_call 84; refine (HSF1.out _).mono ?_; rintro e w4 ⟨rfl, hb⟩; have HC4 := Aside0.mk (HC3.out.below hb); clear hb))
          go_roundg g
          case measure => omega
          case rel =>
            refine ⟨i + 1, by go_num, by have := HI.out; omega, ⟨?_⟩⟩
            rw [HTF.out, if_neg (by rw [HYE.out]; simp), List.append_nil]
            exact HC4.out
        case true =>
          go_wp2_with (first
            | (go_at_call 35; refine (HKD1.out _).mono ?_; rintro e w2 ⟨rfl, rfl⟩)
            | (go_at_call 87; refine (HMV1.out _).mono ?_; rintro e w3 ⟨rfl, hb⟩; have HC3 := Aside0.mk (HC.out.below hb); clear hb)
            | (go_at_call 84; refine (HSF1.out _).mono ?_; rintro e w4 ⟨rfl, hb⟩; have HC4 := Aside0.mk (HC3.out.below hb); clear hb x0 x1; obtain ⟨x0, x1⟩ := HXC.out _ HC4.out.m1)
            | (at_builtin; refine hold ?_))
          refine Hold.go ?_
          refine wpList_append_lies _ (by rfl) _ _ _ (by rfl) w.heap.size 49 i0 _ 2 16 Tryz.underlying45 HZ.out.1 HZ.out.2.1 HZ.out.2.2.1 HZ.out.2.2.2 rfl (by omega) _ fl.length (flatM fl) (by rfl) (HC4.out.own.below (below_alloc (Below.refl _ _) _)) ⟨_, 0, none⟩ 1 1 (mvC (ma, mb)) (by rfl) (by rfl) (World.news_of_block (cs := #[.int .i64 (ma : Int), .int .i64 (mb : Int)]) (t := 49) (fr := (0, 0)) (news_own _ _)) (by simp [Value.oneCell', mvC]) (by omega) (by have := HNI.out; unfold maxLen; omega) (by have := HNI.out; omega) (by have := HC4.out.bel.size; simp; omega) _ rfl ?_
          intro gg cap2 w5 hown1 hgrow hat hlt1
          have HO := Aside0.mk (show Ca2At w w5 (.slice (some ⟨g1, 0, none⟩) l.length cap1) (.slice (some ⟨gg, 0, none⟩) (fl.length + 1) cap2) l (fl ++ [(ma, mb)]) from (HC4.out.below (below_alloc (Below.refl _ _) _)).grown hgrow (by unfold OwnM; rw [flatM_append, List.length_append]; exact hown1) hat)
          clear hown1 hgrow hat hlt1 HC4
          go_wp2_with fail
          go_roundg g
          case measure => omega
          case rel =>
            refine ⟨i + 1, by go_num, by have := HI.out; omega, ⟨?_⟩⟩
            rw [HTF.out, if_pos HYE.out]
            exact HO.out
set_option maxRecDepth 100000 in
set_option maxHeartbeats 2000000 in
theorem rmoves8_c (p : Pos) (hmx : p.cells.size ≤ maxLen) (w : World) : Calls Tryz.prog 41 #[posV p] w fun e w' => ∃ v, e = .returned v ∧ OwnM w' w.heap.size v (legalL p) ∧ Below w.heap.size w w' := by
  have HW := Aside0.mk (fun W => rwell_c p hmx W)
  have hu := Tryz.underlying33
  have HB0 := Aside0.mk (BoxP.new w p)
  have HW0 := Aside0.mk (below_new (Below.refl w.heap.size w) (.cells #[.string p.cells, .int .i64 p.side, .int .i64 p.clock, .int .i64 p.full] 33))
  by_cases hw : wellS p = 0
  case neg =>
    rw [legal_no hw]
    have h2 : (wellS p != 0) = true := by simpa using hw
    clear hw hmx
    generalize wellS p = r at *
    go_enter Tryz.func41, Tryz.ntmps41
    go_wp2_with (go_at_call 51; refine (HW.out _).mono ?_; rintro e w1 ⟨rfl, hb⟩; have HW1 := Aside0.mk (below_go HW0.out hb); clear hb)
    go_ret
    exact ⟨_, rfl, own_nil _ _ _ _, HW1.out⟩
  have hbd := (argOk_yes (checkP_board (well_check hw))).1
  have HOF := Aside0.mk (fun W => rof8_c p.cells hbd p.side W)
  rw [← legal_eq hw] at HOF
  rw [hw] at HW
  generalize legalL p = l at *
  clear hw hmx hbd
  go_enter Tryz.func41, Tryz.ntmps41
  go_wp2_with fail
  refine (HW.out _).mono ?_
  rintro e w1 ⟨rfl, hb⟩
  have HB1 := Aside0.mk (HB0.out.below hb)
  have HW1 := Aside0.mk (below_go HW0.out hb)
  clear hb HB0 HW0
  obtain ⟨e0, e1, e2, e3⟩ := HB1.out
  go_wp2_with fail
  refine (HOF.out _).mono ?_
  rintro e w2 ⟨v, rfl, h2, hb⟩
  have HR := Aside0.mk (And.intro (h2.lower HW1.out.size) (below_go HW1.out hb))
  clear h2 hb HB1 HW1 e0 e1 e2 e3
  go_wp2_with fail
  go_ret
  exact ⟨_, rfl, HR.out.1, HR.out.2⟩
end Go.Proofs.YtllbkppdkldmiaaGreatDoor.K

/- Plain law: boards as functions of squares, for reckoning by the kernel. -/
namespace Go.Proofs.YtllbkppdkldmiaaGreatDoor.K
open Go.RowKit Go.Lib Go.Proofs.YtllbkppdkldmiaaGreatDoorW.PrintWords Go.Proofs.YtllbkppdkldmiaaGreatDoor.Sp
set_option linter.unusedVariables false
set_option linter.unusedSimpArgs false
/-- The fifteen letters, one byte each. -/
def lettersQ : Nat := 61728042078985604849281199107557378862
/-- A board in one number: four bits a square. -/
def celQ (N n : Nat) : Nat := Nat.land (Nat.shiftRight lettersQ (Nat.mul 8 (Nat.land (Nat.shiftRight N (Nat.mul 4 n)) 15))) 255
theorem celQ_letters (N n : Nat) : celQ N n ∈ letters := by
  have h : ∀ k : Fin 16, Nat.land (Nat.shiftRight lettersQ (Nat.mul 8 k.1)) 255 ∈ letters := by decide +kernel
  exact h ⟨Nat.land (Nat.shiftRight N (Nat.mul 4 n)) 15, Nat.lt_of_le_of_lt Nat.and_le_right (by decide)⟩
def boardQ (N : Nat) : ByteArray := boardB (celQ N)
theorem boardQ_is (N : Nat) : isBoard (boardQ N) = true := boardB_is _ (fun n _ => celQ_letters N n)
theorem boardQ_cel (N : Nat) {n : Nat} (hn : n < 90) : cel (boardQ N) n = celQ N n := boardB_cel _ (fun n _ => celQ_letters N n) hn
/-- A board's squares. -/
structure OnB (s : ByteArray) (c : Nat → Nat) : Prop where
  bd : isBoard s = true
  at_ : ∀ n, n < 90 → cel s n = c n
theorem OnB.q (N : Nat) : OnB (boardQ N) (celQ N) := ⟨boardQ_is N, fun n hn => boardQ_cel N hn⟩
theorem OnB.let_ {s : ByteArray} {c : Nat → Nat} (h : OnB s c) (n : Nat) (hn : n < 90) : cel s n ∈ letters := board_cell h.bd hn
def frstQ (c : Nat → Nat) (k : Nat) : Int := hdZ ((List.range 90).filter (fun i => Nat.beq (c i) k))
theorem gen_C {s : ByteArray} {c : Nat → Nat} (h : OnB s c) (a : Int) (ha : a = 0 ∨ a = 1) : genS s a = frstQ c (kingO a) := by
  unfold genS frstQ findS
  rw [if_pos ha, if_pos h.bd]
  congr 1
  refine List.filter_congr fun i hi => ?_
  rw [h.at_ i (List.mem_range.1 hi), Bool.eq_iff_iff, decide_eq_true_eq]
  exact ⟨fun h => by rw [h]; exact Nat.beq_refl _, fun h => Nat.eq_of_beq_eq_true h⟩
theorem first_lt (c : Nat → Nat) (k : Nat) (h : 0 ≤ frstQ c k) : frstQ c k < 90 := by
  unfold frstQ at h ⊢
  cases hl : (List.range 90).filter (fun i => Nat.beq (c i) k) with
  | nil => rw [hl] at h; simp [hdZ] at h
  | cons x r =>
    have hx : x ∈ (List.range 90).filter (fun i => Nat.beq (c i) k) := by rw [hl]; exact List.mem_cons_self
    have := List.mem_range.1 (List.mem_filter.1 hx).1
    show (x : Int) < 90
    omega
def facC (c : Nat → Nat) : Bool := decide (0 ≤ frstQ c 75) && (decide (0 ≤ frstQ c 107) && (((frstQ c 75) % 9 == (frstQ c 107) % 9) && (betwN c (frstQ c 75).toNat (frstQ c 107).toNat == 0)))
theorem fac_C {s : ByteArray} {c : Nat → Nat} (h : OnB s c) : facS s = facC c := by
  unfold facS facC
  rw [gen_C h 0 (.inl rfl), gen_C h 1 (.inr rfl), show kingO 0 = 75 from rfl, show kingO 1 = 107 from rfl]
  have l0 := first_lt c 75
  have l1 := first_lt c 107
  generalize frstQ c 75 = x at *
  generalize frstQ c 107 = y at *
  cases h0 : decide (0 ≤ x)
  · rfl
  · cases h1 : decide (0 ≤ y)
    · rfl
    · have h0 := of_decide_eq_true h0
      have h1 := of_decide_eq_true h1
      have l0 := l0 h0
      have l1 := l1 h1
      have e1 : fileS x = x % 9 := if_pos ⟨h0, l0⟩
      have e2 : fileS y = y % 9 := if_pos ⟨h1, l1⟩
      have e3 : betwS s x y = betwN c x.toNat y.toNat := by
        unfold betwS
        rw [if_pos ⟨h.bd, ⟨h0, l0⟩, ⟨h1, l1⟩⟩]
        exact betw_congr h.at_ (by omega) (by omega)
      rw [e1, e2, e3]
def inC (c : Nat → Nat) (a : Int) : Bool := decide (0 ≤ frstQ c (kingO a)) && (List.range 90).any (fun f => (sideN (putC c (frstQ c (kingO a)).toNat (pawnO (1 - a)) f) == 1 - a) && fastN (putC c (frstQ c (kingO a)).toNat (pawnO (1 - a))) f (frstQ c (kingO a)).toNat)
theorem in_C {s : ByteArray} {c : Nat → Nat} (h : OnB s c) (a : Int) (ha : a = 0 ∨ a = 1) : inS s a = inC c a := by
  unfold inS inC
  rw [gen_C h a ha]
  have l0 := first_lt c (kingO a)
  generalize frstQ c (kingO a) = x at *
  cases h0 : decide (0 ≤ x)
  · rfl
  · have h0 := of_decide_eq_true h0
    have l0 := l0 h0
    obtain ⟨n, rfl⟩ := Int.eq_ofNat_of_zero_le h0
    have hn : n < 90 := by omega
    rw [Int.toNat_natCast, att_same s h.bd n hn (1 - a) (by omega)]
    obtain ⟨hc1, hc2⟩ := pawnO_cell (1 - a)
    have hb := putT_board s h.bd n (pawnO (1 - a)) hc1 hc2
    have hz := board_size h.bd
    have hcel : ∀ i, i < 90 → cel (putT s n (pawnO (1 - a))) i = putC c n (pawnO (1 - a)) i := by
      intro i hi
      rw [putT_cel s n _ i hc2 (by omega), h.at_ i hi]
      rfl
    rw [Bool.true_and, Bool.true_and]
    unfold rattL
    rw [Bool.eq_iff_iff, decide_eq_true_eq, List.length_pos_iff_exists_mem, List.any_eq_true]
    have key : ∀ f, f < 90 → ((sideN (cel (putT s n (pawnO (1 - a))) f) == 1 - a) && fastN (cel (putT s n (pawnO (1 - a)))) f n) = ((sideN (putC c n (pawnO (1 - a)) f) == 1 - a) && fastN (putC c n (pawnO (1 - a))) f n) := by
      intro f hf
      rw [hcel f hf, fast_congr hcel hf hn (fun i hi => board_cell hb hi)]
    constructor
    · rintro ⟨f, hf⟩
      obtain ⟨h1, h2⟩ := List.mem_filter.1 hf
      exact ⟨f, h1, by rw [← key f (List.mem_range.1 h1)]; exact h2⟩
    · rintro ⟨f, h1, h2⟩
      exact ⟨f, List.mem_filter.2 ⟨h1, by rw [key f (List.mem_range.1 h1)]; exact h2⟩⟩
def safeC (c : Nat → Nat) (a : Int) : Bool := !facC c && !inC c a
theorem safe_C {s : ByteArray} {c : Nat → Nat} (h : OnB s c) (a : Int) (ha : a = 0 ∨ a = 1) : safeR s a = safeC c a := by
  unfold safeR safeC; rw [fac_C h, in_C h a ha]
theorem moved_board {s : ByteArray} (hs : isBoard s = true) {a b : Nat} (ha : a < 90) (hb : b < 90) : isBoard (movedB s a b) = true := by
  have hsz := board_size hs
  have hcb : ∀ x ∈ letters, cellB x = true := by decide
  refine (board_iff _ (by rw [moved_size, hsz])).2 (fun n hn => ?_)
  rw [moved_cel (by omega) (by omega) (by omega)]
  refine hcb _ ?_
  unfold moveC setC
  split
  · decide
  · split
    · exact board_cell hs ha
    · exact board_cell hs hn
theorem OnB.moved {s : ByteArray} {c : Nat → Nat} (h : OnB s c) {a b : Nat} (ha : a < 90) (hb : b < 90) : OnB (movedB s a b) (moveC c a b) := by
  refine ⟨moved_board h.bd ha hb, fun n hn => ?_⟩
  have hsz := board_size h.bd
  rw [moved_cel (by omega) (by omega) (by omega)]
  unfold moveC setC
  split
  · rfl
  · split
    · exact h.at_ a ha
    · exact h.at_ n hn
def movesC (c : Nat → Nat) (side : Int) : List Mv := (List.range 90).flatMap (fun a => if sideN (c a) = side then ((List.range 90).filter (fastN c a)).map (fun b => (a, b)) else [])
theorem gath_C {s : ByteArray} {c : Nat → Nat} (h : OnB s c) (side : Int) : gathM s side (fun _ => true) 90 = movesC c side := by
  unfold gathM movesC
  rw [List.flatMap_def, List.flatMap_def]
  congr 1
  refine List.map_congr_left fun a ha => ?_
  have ha := List.mem_range.1 ha
  unfold fromM allN
  rw [h.at_ a ha]
  split
  · congr 1
    rw [List.filter_filter]
    refine List.filter_congr fun b hb => ?_
    rw [Bool.true_and]
    exact fast_congr h.at_ ha (List.mem_range.1 hb) h.let_
  · rfl
def legalQ (c : Nat → Nat) (side : Int) : List Mv := (movesC c side).filter (fun m => kindN (c m.2) != 75 && safeC (moveC c m.1 m.2) side)
theorem legal_C {s : ByteArray} {c : Nat → Nat} (h : OnB s c) (side : Int) (hs : side = 0 ∨ side = 1) : legalR s side = legalQ c side := by
  unfold legalR legalQ
  rw [← gath_C h side]
  refine List.filter_congr fun m hm => ?_
  obtain ⟨h1, h2⟩ := gathM_mem (Nat.le_refl 90) hm
  unfold mayR
  rw [h.at_ _ h2, safe_C (h.moved h1 h2) side hs]
end Go.Proofs.YtllbkppdkldmiaaGreatDoor.K

/- Walks: the reference's Parse, at texts of two fields: letters, ranks. -/
namespace Go.Proofs.YtllbkppdkldmiaaGreatDoor.K
open Go.RowKit Go.Lib Go.Proofs.YtllbkppdkldmiaaGreatDoorW.PrintWords Go.Proofs.YtllbkppdkldmiaaGreatDoor.Sp
set_option linter.unusedVariables false
set_option linter.unusedSimpArgs false
attribute [local go_sem] cel_get   -- for this text's walks alone
def letterN (x : Nat) : Nat := if x = 69 then 66 else if x = 101 then 98 else if x = 72 then 78 else if x = 104 then 110 else x
theorem letterN_lt {x : Nat} (h : x < 256) : letterN x < 256 := by unfold letterN; (repeat' split) <;> omega
theorem eqK (x k : Nat) : ((x : Int) == (k : Int)) = (x == k) := by rw [Bool.eq_iff_iff, beq_iff_eq, beq_iff_eq]; omega
theorem letter_c (x : Nat) (hx : x < 256) (w : World) : Calls Tryz.prog 170 #[.int .u8 (x : Int)] w fun e w' => e = .returned (.int .u8 (letterN x : Int)) ∧ w' = w := by
  have q1 : ((x : Int) == 69) = (x == 69) := eqK x 69
  have q2 : ((x : Int) == 101) = (x == 101) := eqK x 101
  have q3 : ((x : Int) == 72) = (x == 72) := eqK x 72
  have q4 : ((x : Int) == 104) = (x == 104) := eqK x 104
  cases h1 : (x == 69)
  all_goals cases h2 : (x == 101)
  all_goals cases h3 : (x == 72)
  all_goals cases h4 : (x == 104)
  all_goals
    rw [h1] at q1
    rw [h2] at q2
    rw [h3] at q3
    rw [h4] at q4
    have H := Aside0.mk (And.intro h1 (And.intro h2 (And.intro h3 h4)))
    clear h1 h2 h3 h4 hx
    go_enter Tryz.func170, Tryz.ntmps170
    go_wp2_with fail
    go_ret
    refine ⟨ret_int ?_, rfl⟩
    obtain ⟨h1, h2, h3, h4⟩ := H.out
    clear H q1 q2 q3 q4
    unfold letterN
    simp_all
/-- What one byte of a rank's text stands for. -/
def rkOne (x : Nat) : List Nat := if 49 ≤ letterN x ∧ letterN x ≤ 57 then List.replicate (letterN x - 48) 46 else [letterN x]
def rkTo (s : ByteArray) (n : Nat) : List Nat := (List.range n).flatMap (fun i => rkOne (cel s i))
theorem rkTo_succ (s : ByteArray) (n : Nat) : rkTo s (n + 1) = rkTo s n ++ rkOne (cel s n) := by
  unfold rkTo; rw [List.range_succ, List.flatMap_append]; simp
theorem rkOne_len (x : Nat) : (rkOne x).length ≤ 9 := by
  unfold rkOne; split
  · rw [List.length_replicate]; omega
  · simp
theorem rkTo_len (s : ByteArray) (n : Nat) : (rkTo s n).length ≤ 9 * n := by
  induction n with
  | zero => simp [rkTo]
  | succ n ih => rw [rkTo_succ, List.length_append]; have := rkOne_len (cel s n); omega
def rkOk (s : ByteArray) : Bool := decide (s.size ≤ 9) && ((List.range s.size).all (fun i => decide (49 ≤ letterN (cel s i) ∧ letterN (cel s i) ≤ 57) || decide (0 ≤ sideN (letterN (cel s i)))) && (rkTo s s.size).length == 9)
theorem strB_dot (l : List Nat) : strB l ++ ⟨#[46]⟩ = strB (l ++ [46]) := by
  apply ByteArray.ext
  rw [ByteArray.data_append]
  simp [strB]
set_option maxRecDepth 100000 in
set_option maxHeartbeats 4000000 in
theorem rank4_c (s : ByteArray) (hok : rkOk s = true) (w : World) : Calls Tryz.prog 135 #[.string s] w fun e w' => e = .returned (.tuple #[.string (strB (rkTo s s.size)), .bool true]) ∧ Below w.heap.size w w' := by
  unfold rkOk at hok
  simp only [Bool.and_eq_true, decide_eq_true_eq, List.all_eq_true, Bool.or_eq_true, beq_iff_eq] at hok
  obtain ⟨h9, hall, hlen⟩ := hok
  have HALL := Aside0.mk (fun i (hi : i < s.size) => hall i (List.mem_range.2 hi))
  have HLEN := Aside0.mk hlen
  have h9z : (s.size : Int) ≤ 9 := by omega
  have H9 := Aside0.mk h9
  clear hall hlen h9
  go_enter Tryz.func135, Tryz.ntmps135
  go_wp2_with fail
  go_loopg [4, 5] s.size (fun gg s4 s5 wr => ∃ (i : Nat) (acc : ByteArray), s5 = .int .i64 i ∧ i + gg = s.size ∧ s4 = .string acc ∧ Aside0 (acc = strB (rkTo s i)) ∧ Aside0 (Below w.heap.size w wr))
  case atStart => exact ⟨0, ⟨#[]⟩, rfl, by omega, rfl, ⟨rfl⟩, ⟨Below.refl _ _⟩⟩
  case round =>
    obtain ⟨i, acc, rfl, hi, rfl, HACC, HB⟩ := hrel
    cases gk with
    | zero =>
      have hn : ¬ ((i : Int) < (s.size : Int)) := by omega
      have HI := Aside0.mk (show i = s.size by omega)
      have hsz : acc.size = 9 := by rw [HACC.out, HI.out, strB_size, HLEN.out]
      clear hi
      go_wp2_with fail
      refine bodyPost_ret (v := .tuple #[.string acc, .bool true]) (by simp [results, Tryz.results135, go_sem, hsz]) rfl ?_
      exact ⟨by rw [HACC.out, HI.out], HB.out⟩
    | succ g =>
      have hn : (i : Int) < (s.size : Int) := by omega
      have hil : i < s.size := by omega
      have HI := Aside0.mk (show i + 1 + g = s.size by omega)
      have hx := letterN_lt (cel_lt s i)
      have HL := Aside0.mk (fun W => letter_c (cel s i) (cel_lt s i) W)
      have HS := Aside0.mk (fun W => rside_c (letterN (cel s i)) hx W)
      have hcase := HALL.out i hil
      have HST := Aside0.mk (rkTo_succ s i)
      have HAL := Aside0.mk (show acc.size ≤ 81 by rw [HACC.out, strB_size]; have := rkTo_len s i; have := H9.out; omega)
      have HR1 := Aside0.mk (show rkOne (cel s i) = if 49 ≤ letterN (cel s i) ∧ letterN (cel s i) ≤ 57 then List.replicate (letterN (cel s i) - 48) 46 else [letterN (cel s i)] from rfl)
      generalize rkOne (cel s i) = ro at *
      clear hi
      generalize letterN (cel s i) = x at *
      generalize rkTo s i = pre at *
      by_cases hd : 49 ≤ x ∧ x ≤ 57
      · have d0 : (49 : Int) ≤ (x : Int) := by omega
        have d1 : (x : Int) ≤ 57 := by omega
        have e1 : ((x : Int) - 48) % 256 = ((x - 48 : Nat) : Int) := by omega
        have HX9 := Aside0.mk (show x - 48 ≤ 9 by omega)
        have HRO := Aside0.mk (show ro = List.replicate (x - 48) 46 by rw [HR1.out, if_pos hd])
        clear hd hcase hx HR1
        generalize hk : x - 48 = kx at *
        clear hk
        go_wp2_with (go_at_call 170; refine (HL.out _).mono ?_; rintro e w1 ⟨rfl, rfl⟩)
        have hk9 : (kx : Int) ≤ 9 := by have := HX9.out; omega
        go_loopg [4, 7] kx (fun gg s4 s7 wr' => ∃ (j : Nat) (ac2 : ByteArray), s7 = .int .i64 j ∧ j + gg = kx ∧ s4 = .string ac2 ∧ Aside0 (ac2 = strB (pre ++ List.replicate j 46)) ∧ Aside0 (ac2.size ≤ 81 + j) ∧ wr' = w1)
        case atStart => exact ⟨0, acc, rfl, by omega, rfl, ⟨by rw [HACC.out]; simp⟩, ⟨HAL.out⟩, rfl⟩
        case round =>
          obtain ⟨j, ac2, rfl, hj, rfl, HA2, HZ2, rfl⟩ := hrel
          cases gk with
          | zero =>
            have hjn : ¬ ((j : Int) < (kx : Int)) := by omega
            have HJ := Aside0.mk (show j = kx by omega)
            clear hj
            go_wp2_with fail
            go_roundg g
            case measure => omega
            case rel => exact ⟨i + 1, ac2, by go_num, by have := HI.out; omega, rfl, ⟨by rw [HST.out, HRO.out, HA2.out, HJ.out]⟩, HB⟩
          | succ g2 =>
            have hjn : (j : Int) < (kx : Int) := by omega
            have HJ := Aside0.mk (show j + 1 + g2 = kx by omega)
            have hz2 : ac2.size ≤ 90 := by have := HZ2.out; have := HX9.out; omega
            have hz3 : (ac2 ++ ⟨#[46]⟩).size ≤ 81 + (j + 1) := by rw [ByteArray.size_append]; have := HZ2.out; show ac2.size + 1 ≤ _; omega
            have HZ3 := Aside0.mk hz3
            clear hj hz3
            go_wp2_with fail
            go_roundg g2
            case measure => omega
            case rel => exact ⟨j + 1, _, by go_num, by have := HJ.out; omega, rfl, ⟨by rw [HA2.out, strB_dot, List.replicate_succ', List.append_assoc]⟩, HZ3, rfl⟩
      · have hs0 : 0 ≤ sideN x := by rcases hcase with h | h; exact absurd h hd; exact h
        have HRO := Aside0.mk (show ro = [x] by rw [HR1.out, if_neg hd])
        have hz2 : acc.size ≤ 90 := by have := HAL.out; omega
        have kc := one_byte x
        have hsn : (strOfNums [(x : Int)]).size = 1 := by simp [strOfNums, ByteArray.size]
        generalize sideN x = sd at *
        have hd1 : (49 : Int) ≤ (x : Int) → ¬ ((x : Int) ≤ 57) := fun h h2 => hd ⟨by omega, by omega⟩
        clear hd hcase hx HR1
        by_cases hd2 : (49 : Int) ≤ (x : Int)
        case' pos => have hd3 : ¬ ((x : Int) ≤ 57) := hd1 hd2
        all_goals
          clear hd1
          go_wp2_with (first | (go_at_call 170; refine (HL.out _).mono ?_; rintro e w1 ⟨rfl, rfl⟩) | (go_at_call 34; refine (HS.out _).mono ?_; rintro e w2 ⟨rfl, rfl⟩) | (simp only [kc]))
          go_roundg g
          case measure => omega
          case rel => exact ⟨i + 1, _, by go_num, by have := HI.out; omega, rfl, ⟨by rw [HST.out, HRO.out, HACC.out, strB_snoc]⟩, ⟨below_new HB.out _⟩⟩
end Go.Proofs.YtllbkppdkldmiaaGreatDoor.K

/- Walks: the reference's Cut, cells, Parse, at texts of two fields. -/
namespace Go.Proofs.YtllbkppdkldmiaaGreatDoor.K
open Go.RowKit Go.Lib Go.Proofs.YtllbkppdkldmiaaGreatDoorW.PrintWords Go.Proofs.YtllbkppdkldmiaaGreatDoor.Sp
set_option linter.unusedVariables false
set_option linter.unusedSimpArgs false
attribute [local go_sem] cel_get   -- for this text's walks alone
/-- A row of texts of the call's own, from block B on. -/
def OwnT (W : World) (B : Nat) (v : Value) (l : List ByteArray) : Prop := W.ownsRow B 9 1 v l.length (l.map Value.string)
theorem OwnT.below {W W' : World} {B : Nat} {v : Value} {l : List ByteArray} (h : OwnT W B v l) (hb : Below W.heap.size W W') : OwnT W' B v l := pw_own_below h hb
theorem OwnT.lower {W : World} {B B' : Nat} {v : Value} {l : List ByteArray} (h : OwnT W B v l) (hb : B' ≤ B) : OwnT W B' v l := by
  obtain ⟨h1, h2 | ⟨g, cap, cur, h2, h3, h4⟩⟩ := h
  · exact ⟨h1, .inl h2⟩
  · exact ⟨h1, .inr ⟨g, cap, cur, h2, Nat.le_trans hb h3, h4⟩⟩
/-- Texts in a row, as they are read. -/
structure TxAt (W : World) (v : Value) (l : List ByteArray) : Prop where mk ::
  out : ∃ A cap, v = .slice A l.length cap ∧ (l = [] ∨ ∃ g, A = some ⟨g, 0, none⟩ ∧ g < W.heap.size ∧ ∀ i (h : i < l.length), W.cell? ⟨g, i, none⟩ = some (.string l[i]))
theorem TxAt.below {W W' : World} {v : Value} {l : List ByteArray} (h : TxAt W v l) (hb : Below W.heap.size W W') : TxAt W' v l := by
  obtain ⟨A, cap, hv, h⟩ := h.out
  refine ⟨A, cap, hv, ?_⟩
  rcases h with h | ⟨g, hA, hg, hx⟩
  · exact .inl h
  · exact .inr ⟨g, hA, Nat.lt_of_lt_of_le hg hb.size, fun i hi => (hb.cell (p := ⟨g, i, none⟩) hg).trans (hx i hi)⟩
theorem OwnT.reads {W : World} {B : Nat} {v : Value} {l : List ByteArray} (ho : OwnT W B v l) : TxAt W v l := by
  have ho' : W.ownsRow B 9 1 v l.length (l.map Value.string) := ho
  obtain ⟨hx, ⟨h0, h1⟩ | ⟨g, cap, cur, h0, hb, hg, hn, hc, hs, ht⟩⟩ := ho
  · exact ⟨none, 0, by rw [h0, h1], .inl (List.length_eq_zero_iff.1 h1)⟩
  · refine ⟨_, cap, h0, .inr ⟨g, rfl, blk_lt hg, ?_⟩⟩
    intro i hi
    have hc := ho'.cells (g := g) (by rw [h0]; rfl) i (.string l[i]) (by simp [hi])
    rwa [add_plain] at hc
theorem TxAt.at {W : World} {v : Value} {l : List ByteArray} (h : TxAt W v l) (hl : l ≠ []) : ∃ g cap, v = .slice (some ⟨g, 0, none⟩) l.length cap ∧ g < W.heap.size ∧ ∀ i (h : i < l.length), W.cell? ⟨g, i, none⟩ = some (.string l[i]) := by
  obtain ⟨A, cap, hv, h1 | ⟨g, rfl, h2⟩⟩ := h.out
  · exact absurd h1 hl
  · exact ⟨g, cap, hv, h2⟩
theorem info_string : (Tryz.prog.info? 9).map (fun i => (i.zero, i.size, i.bytes)) = some (some (.string ⟨#[]⟩), 1, 16) := by kernel_rfl
/-- A text cut at a byte: what is done after n bytes; and where the last piece begins. -/
def cutTo (s : ByteArray) (c : Nat) : Nat → List ByteArray × Nat
  | 0 => ([], 0)
  | n + 1 => if cel s n = c then ((cutTo s c n).1 ++ [s.extract (cutTo s c n).2 n], n + 1) else cutTo s c n
def cutS (s : ByteArray) (c : Nat) : List ByteArray := (cutTo s c s.size).1 ++ [s.extract (cutTo s c s.size).2 s.size]
theorem cutTo_le (s : ByteArray) (c n : Nat) : (cutTo s c n).2 ≤ n ∧ (cutTo s c n).1.length ≤ n := by
  induction n with
  | zero => simp [cutTo]
  | succ n ih =>
    unfold cutTo
    split
    · simp; omega
    · omega
structure CtAt (w0 W : World) (v : Value) (l : List ByteArray) : Prop where
  own : OwnT W w0.heap.size v l
  bel : Below w0.heap.size w0 W
theorem CtAt.below {w0 W W' : World} {v : Value} {l : List ByteArray} (h : CtAt w0 W v l) (hb : Below W.heap.size W W') : CtAt w0 W' v l := ⟨h.own.below hb, below_go h.bel hb⟩
theorem CtAt.grown {w0 W W1 : World} {v v1 : Value} {l l1 : List ByteArray} (h : CtAt w0 W v l) (hg : W.grownBy W1 v.ownBlock) (ho : OwnT W1 w0.heap.size v1 l1) : CtAt w0 W1 v1 l1 :=
  ⟨ho, h.bel.grown hg h.bel.size (fun k hk => (World.ownsRow.lt h.own k hk).1)⟩
set_option maxRecDepth 100000 in
set_option maxHeartbeats 4000000 in
theorem cut_c (s : ByteArray) (hs : s.size ≤ 1000) (c : Nat) (hc : c < 256) (w : World) : Calls Tryz.prog 106 #[.string s, .int .u8 (c : Int)] w fun e w' => ∃ v, e = .returned v ∧ OwnT w' w.heap.size v (cutS s c) ∧ Below w.heap.size w w' := by
  obtain ⟨i0, hi0, hx0⟩ := Option.map_eq_some_iff.1 info_string
  simp only [Prod.mk.injEq] at hx0
  have HZ := Aside0.mk (⟨hi0, hx0⟩ : _ ∧ _)
  have HSZ := Aside0.mk hs
  have hsz : (s.size : Int) ≤ 1000 := by omega
  clear hx0 hi0 hs
  go_enter Tryz.func106, Tryz.ntmps106
  go_wp2_with fail
  go_loopg [5, 6, 7] s.size (fun gg s5 s6 s7 wr => ∃ i a : Nat, s7 = .int .i64 i ∧ s6 = .int .i64 a ∧ i + gg = s.size ∧ Aside0 (a = (cutTo s c i).2) ∧ Aside0 (CtAt w wr s5 (cutTo s c i).1))
  case atStart => exact ⟨0, 0, rfl, rfl, by omega, ⟨rfl⟩, ⟨⟨own_nil _ _ _ _, Below.refl _ _⟩⟩⟩
  case round =>
    obtain ⟨i, a, rfl, rfl, hi, HA, HG⟩ := hrel
    have HLE := Aside0.mk (cutTo_le s c i)
    have hai : a ≤ i := by rw [HA.out]; exact HLE.out.1
    cases gk with
    | zero =>
      have hn : ¬ ((i : Int) < (s.size : Int)) := by omega
      have HI := Aside0.mk (show i = s.size by omega)
      have ha0 : (a : Int) ≤ (s.size : Int) := by omega
      have HLN := Aside0.mk (show (cutTo s c i).1.length ≤ 1000 by have := HLE.out.2; have := HI.out; have := HSZ.out; omega)
      have HCS := Aside0.mk (show cutS s c = (cutTo s c i).1 ++ [s.extract a s.size] by unfold cutS; rw [HA.out, HI.out])
      generalize (cutTo s c i).1 = L at *
      clear hi hai
      go_wp2_with (at_builtin; refine hold ?_)
      refine Hold.go ?_
      refine wpList_append_lies _ (by rfl) _ _ _ (by rfl) w.heap.size 9 i0 _ 1 16 Tryz.underlying88 HZ.out.1 HZ.out.2.1 HZ.out.2.2.1 HZ.out.2.2.2 rfl (by omega) _ L.length (L.map Value.string) (by rfl) (HG.out.own.below (below_alloc (Below.refl _ _) _)) ⟨_, 0, none⟩ 1 1 [.string (s.extract a s.size)] (by rfl) (by rfl) (World.news_of_block (cs := #[.string (s.extract a s.size)]) (t := 9) (fr := (0, 0)) (news_own _ _)) (by simp [Value.oneCell']) (by omega) (by have := HLN.out; unfold maxLen; omega) (by have := HLN.out; omega) (by have := HG.out.bel.size; simp; omega) _ rfl ?_
      intro gg cap1 w1 hown1 hgrow hat hlt1
      have HO := Aside0.mk (show CtAt w w1 (.slice (some ⟨gg, 0, none⟩) (L.length + 1) cap1) (L ++ [s.extract a s.size]) from (HG.out.below (below_alloc (Below.refl _ _) _)).grown hgrow (by unfold OwnT; rw [List.map_append, List.length_append]; exact hown1))
      clear hown1 hgrow hat hlt1
      go_wp2_with fail
      go_ret
      exact ⟨_, rfl, by rw [HCS.out]; exact HO.out.own, HO.out.bel⟩
    | succ g =>
      have hn : (i : Int) < (s.size : Int) := by omega
      have hil : i < s.size := by omega
      have HI := Aside0.mk (show i + 1 + g = s.size by omega)
      have hq : (((cel s i : Nat) : Int) == (c : Int)) = (cel s i == c) := eqK _ _
      have HST := Aside0.mk (show cutTo s c (i + 1) = if cel s i = c then ((cutTo s c i).1 ++ [s.extract (cutTo s c i).2 i], i + 1) else cutTo s c i from rfl)
      have HLN := Aside0.mk (show (cutTo s c i).1.length ≤ 1000 by have := HLE.out.2; have := HI.out; have := HSZ.out; omega)
      clear hi
      cases hcc : (cel s i == c)
      case false =>
        rw [hcc] at hq
        have HN := Aside0.mk (show cutTo s c (i + 1) = cutTo s c i by rw [HST.out, if_neg (by simpa using hcc)])
        clear hcc HST
        go_wp2_with fail
        go_roundg g
        case measure => omega
        case rel => exact ⟨i + 1, a, by go_num, rfl, by have := HI.out; omega, ⟨by rw [HN.out]; exact HA.out⟩, ⟨by rw [HN.out]; exact HG.out⟩⟩
      case true =>
        rw [hcc] at hq
        have HN := Aside0.mk (show cutTo s c (i + 1) = ((cutTo s c i).1 ++ [s.extract a i], i + 1) by rw [HST.out, if_pos (by simpa using hcc), HA.out])
        have ha0 : (a : Int) ≤ (i : Int) := by omega
        have hn2 : (i : Int) ≤ (s.size : Int) := by omega
        have hil2 : i ≤ s.size := by omega
        clear hcc HST HA
        generalize (cutTo s c i).1 = L at *
        go_wp2_with (at_builtin; refine hold ?_)
        refine Hold.go ?_
        refine wpList_append_lies _ (by rfl) _ _ _ (by rfl) w.heap.size 9 i0 _ 1 16 Tryz.underlying88 HZ.out.1 HZ.out.2.1 HZ.out.2.2.1 HZ.out.2.2.2 rfl (by omega) _ L.length (L.map Value.string) (by rfl) (HG.out.own.below (below_alloc (Below.refl _ _) _)) ⟨_, 0, none⟩ 1 1 [.string (s.extract a i)] (by rfl) (by rfl) (World.news_of_block (cs := #[.string (s.extract a i)]) (t := 9) (fr := (0, 0)) (news_own _ _)) (by simp [Value.oneCell']) (by omega) (by have := HLN.out; unfold maxLen; omega) (by have := HLN.out; omega) (by have := HG.out.bel.size; simp; omega) _ rfl ?_
        intro gg cap1 w1 hown1 hgrow hat hlt1
        have HO := Aside0.mk (show CtAt w w1 (.slice (some ⟨gg, 0, none⟩) (L.length + 1) cap1) (L ++ [s.extract a i]) from (HG.out.below (below_alloc (Below.refl _ _) _)).grown hgrow (by unfold OwnT; rw [List.map_append, List.length_append]; exact hown1))
        clear hown1 hgrow hat hlt1 HG
        go_wp2_with fail
        go_roundg g
        case measure => omega
        case rel => exact ⟨i + 1, i + 1, by go_num, by go_num, by have := HI.out; omega, ⟨by rw [HN.out]⟩, ⟨by rw [HN.out]; exact HO.out⟩⟩
/-- The squares of a board's text, rank by rank, the last ones first: after m of the ten. -/
def celTo (l : List ByteArray) (m : Nat) : List Nat := (List.range m).flatMap (fun j => rkTo (l.getD (9 - j) ⟨#[]⟩) (l.getD (9 - j) ⟨#[]⟩).size)
theorem celTo_succ (l : List ByteArray) (m : Nat) : celTo l (m + 1) = celTo l m ++ rkTo (l.getD (9 - m) ⟨#[]⟩) (l.getD (9 - m) ⟨#[]⟩).size := by
  unfold celTo; rw [List.range_succ, List.flatMap_append]; simp
theorem strB_append (a b : List Nat) : strB a ++ strB b = strB (a ++ b) := by
  apply ByteArray.ext
  rw [ByteArray.data_append]
  simp [strB]
theorem rkOk_len {s : ByteArray} (h : rkOk s = true) : (rkTo s s.size).length = 9 := by
  unfold rkOk at h
  simp only [Bool.and_eq_true, beq_iff_eq] at h
  exact h.2.2
theorem celTo_len (l : List ByteArray) (hl : l.length = 10) (h : ∀ x ∈ l, rkOk x = true) (m : Nat) (hm : m ≤ 10) : (celTo l m).length = 9 * m := by
  induction m with
  | zero => simp [celTo]
  | succ m ih =>
    rw [celTo_succ, List.length_append, ih (by omega)]
    have hi : 9 - m < l.length := by omega
    have hg : l.getD (9 - m) ⟨#[]⟩ = l[9 - m] := by simp [List.getD_eq_getElem?_getD, hi]
    rw [hg, rkOk_len (h _ (List.getElem_mem hi))]
    omega
set_option maxRecDepth 100000 in
set_option maxHeartbeats 4000000 in
theorem cells4_c (s : ByteArray) (hs : s.size ≤ 1000) (l : List ByteArray) (hcut : cutS s 47 = l) (hl : l.length = 10) (hok : ∀ x ∈ l, rkOk x = true) (w : World) :
    Calls Tryz.prog 107 #[.string s] w fun e w' => e = .returned (.tuple #[.string (strB (celTo l 10)), .bool true]) ∧ Below w.heap.size w w' := by
  have HC := Aside0.mk (fun W => cut_c s hs 47 (by omega) W)
  rw [hcut] at HC
  have HOK := Aside0.mk hok
  have HLN := Aside0.mk (fun m hm => celTo_len l hl hok m hm)
  have HL := Aside0.mk hl
  clear hs hcut hl hok
  go_enter Tryz.func107, Tryz.ntmps107
  go_wp2_with fail
  refine (HC.out _).mono ?_
  rintro e w1 ⟨v, rfl, ho, hb⟩
  have HB := Aside0.mk hb
  have HT := Aside0.mk ho.reads
  clear ho hb
  obtain ⟨g0, cap0, rfl, _, _⟩ := HT.out.at (fun h => by have := HL.out; rw [h] at this; simp at this)
  rw [HL.out]
  go_wp2_with fail
  go_loopg [5, 6, 7, 8] 10 (fun gg s5 s6 _ _ wr => ∃ (m : Nat) (acc : ByteArray), m = gg ∧ m ≤ 10 ∧ s6 = .int .i64 ((m : Int) - 1) ∧ s5 = .string acc ∧ Aside0 (acc = strB (celTo l (10 - m))) ∧ Aside0 (TxAt wr (.slice (some ⟨g0, 0, none⟩) l.length cap0) l) ∧ Aside0 (Below w.heap.size w wr))
  case atStart => exact ⟨10, ⟨#[]⟩, rfl, by omega, rfl, rfl, ⟨rfl⟩, HT, HB⟩
  case round =>
    clear HT HB
    obtain ⟨m, acc, rfl, hm, rfl, rfl, HACC, HT, HB⟩ := hrel
    cases m with
    | zero =>
      have hn : ¬ (0 ≤ ((0 : Nat) : Int) - 1) := by omega
      go_wp2_with fail
      refine bodyPost_ret (v := .tuple #[.string acc, .bool true]) (by simp [results, Tryz.results107, go_sem]) rfl ?_
      exact ⟨by rw [HACC.out], HB.out⟩
    | succ g =>
      have hg : ((g + 1 : Nat) : Int) - 1 = (g : Int) := by omega
      rw [hg]
      have hn : 0 ≤ (g : Int) := by omega
      have hg10 : (g : Int) < 10 := by omega
      have hgl : g < l.length := by rw [HL.out]; omega
      have hx := HT.out
      obtain ⟨g1, cap1, hA, _, hcell⟩ := hx.at (fun h => by rw [h] at hgl; simp at hgl)
      simp only [Value.slice.injEq, Option.some.injEq, Addr.mk.injEq, true_and, and_true] at hA
      obtain ⟨rfl, rfl⟩ := hA
      have c0 := hcell g hgl
      have hrk := HOK.out _ (List.getElem_mem hgl)
      have HR := Aside0.mk (fun W => rank4_c l[g] hrk W)
      have HST := Aside0.mk (show celTo l (10 - g) = celTo l (10 - (g + 1)) ++ rkTo l[g] l[g].size by
        have := celTo_succ l (10 - (g + 1))
        rw [show 10 - (g + 1) + 1 = 10 - g by omega, show 9 - (10 - (g + 1)) = g by omega, show l.getD g ⟨#[]⟩ = l[g] by simp [List.getD_eq_getElem?_getD, hgl]] at this
        exact this)
      have hz1 : acc.size ≤ 90 := by rw [HACC.out, strB_size, HLN.out _ (by omega)]; omega
      have hz2 : (strB (rkTo l[g] l[g].size)).size = 9 := by rw [strB_size, rkOk_len hrk]
      have HG := Aside0.mk hm
      generalize l[g] = lg at *
      generalize hrr : rkTo lg lg.size = rr at *
      have HRR := Aside0.mk hrr
      generalize hsr : strB rr = sr at *
      have HSR := Aside0.mk hsr
      clear hrr hsr hrk hcell hx hgl hg hm
      go_wp2_with fail
      refine (HR.out _).mono ?_
      rintro e w2 ⟨rfl, hb⟩
      have HT2 := Aside0.mk (HT.out.below hb)
      have HB2 := Aside0.mk (below_go HB.out hb)
      clear hb HT HB c0
      go_wp2_with fail
      go_roundg g
      case measure => omega
      case rel => exact ⟨g, _, rfl, by have := HG.out; omega, by first | rfl | rw [show wrap64 ((g : Int) - 1) = (g : Int) - 1 by have := HG.out; unfold wrap64; omega], rfl, ⟨by rw [HST.out, HACC.out, ← HSR.out, strB_append]⟩, HT2, HB2⟩
/-- The result's box. -/
structure ZeAt (w0 W : World) : Prop where
  r0 : W.cell? ⟨w0.heap.size, 0, none⟩ = some (.string ByteArray.empty)
  r1 : W.cell? ⟨w0.heap.size, 1, none⟩ = some (.int .i64 0)
  r2 : W.cell? ⟨w0.heap.size, 2, none⟩ = some (.int .i64 0)
  r3 : W.cell? ⟨w0.heap.size, 3, none⟩ = some (.int .i64 0)
  fr : ∀ k, W.frozen? ⟨w0.heap.size, k, none⟩ = false
  bel : Below w0.heap.size w0 W
  lt : w0.heap.size < W.heap.size
theorem ZeAt.below {w0 W W' : World} (h : ZeAt w0 W) (hb : Below W.heap.size W W') : ZeAt w0 W' :=
  ⟨below_cell hb _ _ _ h.r0, below_cell hb _ _ _ h.r1, below_cell hb _ _ _ h.r2, below_cell hb _ _ _ h.r3, fun k => (hb.frozen (p := ⟨w0.heap.size, k, none⟩) h.lt).trans (h.fr k), below_go h.bel hb, Nat.lt_of_lt_of_le h.lt hb.size⟩
theorem ZeAt.new (w : World) : ZeAt w (w.alloc (.cells #[.string ByteArray.empty, .int .i64 0, .int .i64 0, .int .i64 0] 33)) :=
  ⟨by simp [World.cell?_alloc_at], by simp [World.cell?_alloc_at], by simp [World.cell?_alloc_at], by simp [World.cell?_alloc_at], fun k => World.frozen?_alloc_at _ _ _ k rfl, below_alloc (Below.refl _ _) _, by simp⟩
set_option maxRecDepth 100000 in
set_option maxHeartbeats 4000000 in
theorem parse_c (s : ByteArray) (hs : s.size ≤ 1000) (a : ByteArray) (hcut : cutS s 32 = [a, ⟨#[119]⟩]) (ha : a.size ≤ 1000) (l : List ByteArray) (hcut2 : cutS a 47 = l) (hl : l.length = 10) (hok : l.all rkOk = true) (b : ByteArray) (hb : strB (celTo l 10) = b) (hck : checkP ⟨b, 0, 0, 1⟩ = 0) (w : World) :
    Calls Tryz.prog 74 #[.string s] w fun e w' => e = .returned (.tuple #[posV ⟨b, 0, 0, 1⟩, .int .i64 0]) ∧ Below w.heap.size w w' := by
  have HC := Aside0.mk (fun W => cut_c s hs 32 (by omega) W)
  rw [hcut] at HC
  have HCL := Aside0.mk (fun W => cells4_c a ha l hcut2 hl (List.all_eq_true.1 hok) W)
  rw [hb] at HCL
  have hbd := board_size (argOk_yes (checkP_board hck)).1
  have HCK := Aside0.mk (fun W => rcheck_c ⟨b, 0, 0, 1⟩ (by show b.size ≤ _; rw [show b.size = 90 from hbd]; unfold maxLen; omega) W)
  rw [hck] at HCK
  have hu := Tryz.underlying33
  have hs1 : (s.size : Int) ≤ 1000 := by omega
  have HZ := Aside0.mk (ZeAt.new w)
  clear hs hcut ha hcut2 hl hok hb hck hbd
  go_enter Tryz.func74, Tryz.ntmps74
  go_wp2_with fail
  refine (HC.out _).mono ?_
  rintro e w1 ⟨v, rfl, ho, hb⟩
  have HZ1 := Aside0.mk ((HZ.out.below (below_alloc (Below.refl _ _) _)).below hb)
  have HT := Aside0.mk ho.reads
  clear ho hb HZ
  obtain ⟨g0, cap0, rfl, _, hc⟩ := HT.out.at (by simp)
  have c0 : w1.cell? ⟨g0, 0, none⟩ = some (.string a) := hc 0 (by simp)
  clear hc
  go_wp2_with fail
  refine (HCL.out _).mono ?_
  rintro e w2 ⟨rfl, hb⟩
  have HZ2 := Aside0.mk ((HZ1.out.below hb).below (below_alloc (Below.refl _ _) (.cells #[.string b, .int .i64 0, .int .i64 0, .int .i64 1] 33)))
  have HT2 := Aside0.mk ((HT.out.below hb).below (below_alloc (Below.refl _ _) (.cells #[.string b, .int .i64 0, .int .i64 0, .int .i64 1] 33)))
  have HQ := Aside0.mk (BoxP.new w2 ⟨b, 0, 0, 1⟩)
  have hn2 : w2.heap.size ≠ w.heap.size := World.new_ne w2 _ (HZ1.out.below hb).r0
  clear hb HT HZ1 c0
  go_upto_region 9 with fail
  generalize w2.heap.size = qb at *
  generalize (w2.alloc (.cells #[.string b, .int .i64 0, .int .i64 0, .int .i64 1] 33)) = w3 at *
  obtain ⟨g1, cap1, hA, _, hc⟩ := HT2.out.at (by simp)
  simp only [Value.slice.injEq, Option.some.injEq, Addr.mk.injEq, true_and, and_true] at hA
  obtain ⟨rfl, rfl⟩ := hA
  have c1 : w3.cell? ⟨g0, 1, none⟩ = some (.string ⟨#[119]⟩) := hc 1 (by simp)
  obtain ⟨q0, q1, q2, q3⟩ := HQ.out
  clear hc
  go_wp2_with fail
  refine (HCK.out _).mono ?_
  rintro e w4 ⟨rfl, hb⟩
  have HZ4 := Aside0.mk (HZ2.out.below hb)
  clear q0 q1 q2 q3
  obtain ⟨q0, q1, q2, q3⟩ := HQ.out.below hb
  clear hb HZ2 HT2 c1
  have fr := HZ4.out.fr
  have r0 := HZ4.out.r0
  have r1 := HZ4.out.r1
  have r2 := HZ4.out.r2
  have r3 := HZ4.out.r3
  go_wp2_with fail
  refine bodyPost_ret (by simp [results, Tryz.results74, go_sem, r0, r1, r2, r3]; try rfl) rfl ?_
  exact ⟨rfl, by (repeat' (first | (with_reducible exact Below.refl _ _) | (with_reducible refine pw_below_drewN ?_ _) | (with_reducible refine below_alloc ?_ _) | (with_reducible refine Below.drew ?_) | (with_reducible refine Below.setCell ?_ ?_ _) | (simp; done))) <;> first | exact HZ4.out.bel | (simp; done) | (simp; omega)⟩
end Go.Proofs.YtllbkppdkldmiaaGreatDoor.K

/- The pseudo laws' live: some answers, by the contracts and the kernel's reckoning. -/
namespace Go.Proofs.YtllbkppdkldmiaaGreatDoor.K
open Go.RowKit Go.Lib Go.Proofs.YtllbkppdkldmiaaGreatDoorW.PrintWords Go.Proofs.YtllbkppdkldmiaaGreatDoor.Sp
set_option linter.unusedVariables false
set_option linter.unusedSimpArgs false
abbrev startB : ByteArray := ⟨#[82, 78, 66, 65, 75, 65, 66, 78, 82, 46, 46, 46, 46, 46, 46, 46, 46, 46, 46, 67, 46, 46, 46, 46, 46, 67, 46, 80, 46, 80, 46, 80, 46, 80, 46, 80, 46, 46, 46, 46, 46, 46, 46, 46, 46, 46, 46, 46, 46, 46, 46, 46, 46, 46, 112, 46, 112, 46, 112, 46, 112, 46, 112, 46, 99, 46, 46, 46, 46, 46, 99, 46, 46, 46, 46, 46, 46, 46, 46, 46, 46, 114, 110, 98, 97, 107, 97, 98, 110, 114]⟩
abbrev startP : Pos := ⟨startB, 0, 0, 1⟩
theorem start_moves : (gathP startP (fun _ => true)).length = 44 ∧ (gathP startP (fun _ => true))[0]? = some (0, 9) ∧ (gathP startP (fun x => x != 46)).length = 2 := by decide +kernel
theorem start_apply : (applyP startP ⟨19, 82⟩).1.side = 1 ∧ (applyP startP ⟨19, 82⟩).1.clock = 0 ∧ (applyP startP ⟨19, 82⟩).1.full = 1 ∧ (applyP startP ⟨19, 82⟩).2 = (110, 0) ∧ (applyP startP ⟨0, 90⟩).2.2 = 7 ∧ (applyP zeroP ⟨0, 0⟩).2.2 = 1 := by decide +kernel
end Go.Proofs.YtllbkppdkldmiaaGreatDoor.K

/- The legal laws' live: some answers, by the kernel's reckoning. -/
namespace Go.Proofs.YtllbkppdkldmiaaGreatDoor.K
open Go.RowKit Go.Lib Go.Proofs.YtllbkppdkldmiaaGreatDoorW.PrintWords Go.Proofs.YtllbkppdkldmiaaGreatDoor.Sp
set_option linter.unusedVariables false
set_option linter.unusedSimpArgs false
abbrev mateT : ByteArray := ⟨#[51, 107, 53, 47, 57, 47, 57, 47, 57, 47, 57, 47, 57, 47, 57, 47, 57, 47, 51, 114, 53, 47, 114, 51, 75, 52, 32, 119]⟩
abbrev mateF : ByteArray := ⟨#[51, 107, 53, 47, 57, 47, 57, 47, 57, 47, 57, 47, 57, 47, 57, 47, 57, 47, 51, 114, 53, 47, 114, 51, 75, 52]⟩
abbrev mateB : ByteArray := ⟨#[114, 46, 46, 46, 75, 46, 46, 46, 46, 46, 46, 46, 114, 46, 46, 46, 46, 46, 46, 46, 46, 46, 46, 46, 46, 46, 46, 46, 46, 46, 46, 46, 46, 46, 46, 46, 46, 46, 46, 46, 46, 46, 46, 46, 46, 46, 46, 46, 46, 46, 46, 46, 46, 46, 46, 46, 46, 46, 46, 46, 46, 46, 46, 46, 46, 46, 46, 46, 46, 46, 46, 46, 46, 46, 46, 46, 46, 46, 46, 46, 46, 46, 46, 46, 107, 46, 46, 46, 46, 46]⟩
abbrev mateP : Pos := ⟨mateB, 0, 0, 1⟩
theorem mate_parts : cutS mateT 32 = [mateF, ⟨#[119]⟩] ∧ (cutS mateF 47).length = 10 ∧ (cutS mateF 47).all rkOk = true ∧ strB (celTo (cutS mateF 47) 10) = mateB ∧ checkP mateP = 0 := by decide +kernel
theorem mate_parse (w : World) : Calls Tryz.prog 74 #[.string mateT] w fun e w' => e = .returned (.tuple #[posV mateP, .int .i64 0]) ∧ Below w.heap.size w w' := by
  obtain ⟨h1, h2, h3, h4, h5⟩ := mate_parts
  exact parse_c mateT (by decide) mateF h1 (by decide) _ rfl h2 h3 _ h4 h5 w
abbrev staleT : ByteArray := ⟨#[53, 107, 51, 47, 57, 47, 57, 47, 57, 47, 57, 47, 57, 47, 57, 47, 57, 47, 51, 114, 53, 47, 52, 75, 52, 32, 119]⟩
abbrev staleF : ByteArray := ⟨#[53, 107, 51, 47, 57, 47, 57, 47, 57, 47, 57, 47, 57, 47, 57, 47, 57, 47, 51, 114, 53, 47, 52, 75, 52]⟩
abbrev staleB : ByteArray := ⟨#[46, 46, 46, 46, 75, 46, 46, 46, 46, 46, 46, 46, 114, 46, 46, 46, 46, 46, 46, 46, 46, 46, 46, 46, 46, 46, 46, 46, 46, 46, 46, 46, 46, 46, 46, 46, 46, 46, 46, 46, 46, 46, 46, 46, 46, 46, 46, 46, 46, 46, 46, 46, 46, 46, 46, 46, 46, 46, 46, 46, 46, 46, 46, 46, 46, 46, 46, 46, 46, 46, 46, 46, 46, 46, 46, 46, 46, 46, 46, 46, 46, 46, 46, 46, 46, 46, 107, 46, 46, 46]⟩
abbrev staleP : Pos := ⟨staleB, 0, 0, 1⟩
theorem stale_parts : cutS staleT 32 = [staleF, ⟨#[119]⟩] ∧ (cutS staleF 47).length = 10 ∧ (cutS staleF 47).all rkOk = true ∧ strB (celTo (cutS staleF 47) 10) = staleB ∧ checkP staleP = 0 := by decide +kernel
theorem stale_parse (w : World) : Calls Tryz.prog 74 #[.string staleT] w fun e w' => e = .returned (.tuple #[posV staleP, .int .i64 0]) ∧ Below w.heap.size w w' := by
  obtain ⟨h1, h2, h3, h4, h5⟩ := stale_parts
  exact parse_c staleT (by decide) staleF h1 (by decide) _ rfl h2 h3 _ h4 h5 w
abbrev startN : Nat := 1868396417696219742832486546452904002272599990723053606518375936556489058356868476713422886370221736333484869
abbrev mateN : Nat := 1119872371088902105278721140284222139060822748617324767449994550481895935590080472690442124335524151308
abbrev staleN : Nat := 286687326998758938951352611912760867599570623646035140467198604923365359511060601008752322516465431412736
theorem start_on : OnB startB (celQ startN) := ⟨by decide +kernel, by
  have h : ∀ n : Fin 90, cel startB n.1 = celQ startN n.1 := by decide +kernel
  exact fun n hn => h ⟨n, hn⟩⟩
theorem mate_on : OnB mateB (celQ mateN) := ⟨by decide +kernel, by
  have h : ∀ n : Fin 90, cel mateB n.1 = celQ mateN n.1 := by decide +kernel
  exact fun n hn => h ⟨n, hn⟩⟩
theorem stale_on : OnB staleB (celQ staleN) := ⟨by decide +kernel, by
  have h : ∀ n : Fin 90, cel staleB n.1 = celQ staleN n.1 := by decide +kernel
  exact fun n hn => h ⟨n, hn⟩⟩
theorem start_well : wellS startP = 0 := by decide +kernel
theorem mate_well : wellS mateP = 0 := by decide +kernel
theorem stale_well : wellS staleP = 0 := by decide +kernel
def startM : List Mv := [(0, 9), (0, 18), (1, 18), (1, 20), (2, 18), (2, 22), (3, 13), (4, 13), (5, 13), (6, 22), (6, 26), (7, 24), (7, 26), (8, 17), (8, 26), (19, 10), (19, 18), (19, 20), (19, 21), (19, 22), (19, 23), (19, 24), (19, 28), (19, 37), (19, 46), (19, 55), (19, 82), (25, 16), (25, 20), (25, 21), (25, 22), (25, 23), (25, 24), (25, 26), (25, 34), (25, 43), (25, 52), (25, 61), (25, 88), (27, 36), (29, 38), (31, 40), (33, 42), (35, 44)]
theorem start_list : legalL startP = startM := by
  rw [legal_eq start_well, legal_C start_on 0 (.inl rfl)]
  decide +kernel
theorem start_legal : (legalL startP).length = 44 := by rw [start_list]; rfl
theorem start_caps : (legalC startP).length = 2 := by unfold legalC; rw [start_list]; decide +kernel
theorem start_is : isS startP ⟨0, 9⟩ = true ∧ isS startP ⟨0, 1⟩ = false := by decide +kernel
theorem start_end : endS startP = 0 := by decide +kernel
theorem mate_end : endS mateP = 1 := by decide +kernel
theorem stale_end : endS staleP = 2 := by decide +kernel
theorem start_make : (makeP startP ⟨19, 82⟩).1.side = 1 ∧ (makeP startP ⟨19, 82⟩).2 = (110, 0) ∧ (makeP startP ⟨0, 0⟩).2.2 = 7 := by decide +kernel
end Go.Proofs.YtllbkppdkldmiaaGreatDoor.K
