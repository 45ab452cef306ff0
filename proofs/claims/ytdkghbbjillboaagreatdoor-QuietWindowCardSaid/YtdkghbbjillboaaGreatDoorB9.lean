/- Walks and plain laws that several statements lean on, joined: no statement of the seat is proved here. -/
import Derived.Test.YtdkghbbjillboaaGreatDoorB8
import Derived.Test.YtdkghbbjillboaaGreatDoorB5
import Derived.Test.YtdkghbbjillboaaGreatDoorB2
import Derived.Test.YtdkghbbjillboaaGreatDoorB7

/- Plain law of value: what a position is worth, and what a move changes of it. -/
namespace Go.Proofs.YtdkghbbjillboaaGreatDoor.K
open Go.RowKit Go.Lib Go.Proofs.YtdkghbbjillboaaGreatDoorW.PrintWords Go.Proofs.YtdkghbbjillboaaGreatDoor.Sp
set_option linter.unusedVariables false
set_option linter.unusedSimpArgs false
/-- What a kind is worth. -/
def kindV (k : Nat) : Int := if k = 80 then 30 else if k = 65 ∨ k = 66 then 40 else if k = 78 then 90 else if k = 67 then 95 else if k = 82 then 200 else 0
def asideN (n : Nat) : Int := max (((n % 9 : Nat) : Int) - 4) (4 - ((n % 9 : Nat) : Int))
def rankN (c n : Nat) : Int := if sideN c = 1 then 9 - ((n / 9 : Nat) : Int) else ((n / 9 : Nat) : Int)
/-- What a piece on a square is worth. -/
def pieceV (c n : Nat) : Int :=
  if sideN c < 0 then 0 else
  kindV (kindN c) + (if kindN c = 80 then (if overN n (sideN c) = true then (if asideN n ≤ 1 then 50 else 40) else 0) else if kindN c = 78 ∨ kindN c = 67 ∨ kindN c = 82 then rankN c n + 4 - asideN n else 0)
theorem pieceV_none {c : Nat} (h : sideN c < 0) (n : Nat) : pieceV c n = 0 := by unfold pieceV; rw [if_pos h]
theorem kindV_le (k : Nat) : 0 ≤ kindV k ∧ kindV k ≤ 200 := by
  unfold kindV
  repeat' split
  all_goals omega
theorem pieceV_le (c : Nat) {n : Nat} (hn : n < 90) : -300 ≤ pieceV c n ∧ pieceV c n ≤ 300 := by
  have hk := kindV_le (kindN c)
  have ha : 0 ≤ asideN n ∧ asideN n ≤ 4 := by unfold asideN; omega
  have hr : 0 ≤ rankN c n ∧ rankN c n ≤ 9 := by
    unfold rankN
    split <;> omega
  unfold pieceV
  repeat' split
  all_goals omega
/-- A side's own counts for it, the other's against it. -/
def ownV (a : Int) (c n : Nat) : Int := if sideN c = a then pieceV c n else - pieceV c n
def sumV (f : Nat → Int) : Nat → Int
  | 0 => 0
  | n + 1 => sumV f n + f n
theorem sumV_congr {f g : Nat → Int} {n : Nat} (h : ∀ i, i < n → f i = g i) : sumV f n = sumV g n := by
  induction n with
  | zero => rfl
  | succ n ih => show sumV f n + f n = sumV g n + g n; rw [ih (fun i hi => h i (by omega)), h n (by omega)]
theorem sumV_neg (f : Nat → Int) (n : Nat) : sumV (fun i => - f i) n = - sumV f n := by
  induction n with
  | zero => rfl
  | succ n ih => show sumV (fun i => - f i) n + - f n = - (sumV f n + f n); rw [ih]; omega
theorem sumV_at {f g : Nat → Int} {a n : Nat} (ha : a < n) (h : ∀ i, i ≠ a → f i = g i) : sumV f n - f a = sumV g n - g a := by
  induction n with
  | zero => omega
  | succ n ih =>
    show sumV f n + f n - f a = sumV g n + g n - g a
    by_cases he : a = n
    · subst he
      have := sumV_congr (f := f) (g := g) (n := a) (fun i hi => h i (by omega))
      omega
    · have := ih (by omega)
      have h2 := h n (Ne.symm he)
      omega
theorem sumV_le {f : Nat → Int} {b : Int} {n : Nat} (h : ∀ i, i < n → -b ≤ f i ∧ f i ≤ b) : -(b * n) ≤ sumV f n ∧ sumV f n ≤ b * n := by
  induction n with
  | zero => simp [sumV]
  | succ n ih =>
    have h1 := ih (fun i hi => h i (by omega))
    have h2 := h n (by omega)
    have e : b * ((n + 1 : Nat) : Int) = b * n + b := by rw [Int.natCast_succ, Int.mul_add, Int.mul_one]
    show -(b * ((n + 1 : Nat) : Int)) ≤ sumV f n + f n ∧ sumV f n + f n ≤ b * ((n + 1 : Nat) : Int)
    rw [e]
    omega
/-- What a board is worth to a side. -/
def valS (s : ByteArray) (a : Int) : Int := sumV (fun n => ownV a (cel s n) n) 90
theorem ownV_le (a : Int) (c : Nat) {n : Nat} (hn : n < 90) : -300 ≤ ownV a c n ∧ ownV a c n ≤ 300 := by
  have := pieceV_le c hn
  unfold ownV
  split <;> omega
theorem valS_le (s : ByteArray) (a : Int) : -27000 ≤ valS s a ∧ valS s a ≤ 27000 := by
  have := sumV_le (f := fun n => ownV a (cel s n) n) (b := 300) (n := 90) (fun i hi => ownV_le a _ hi)
  unfold valS
  omega
theorem ownV_flip {c : Nat} (hc : c ∈ letters) {a : Int} (ha : a = 0 ∨ a = 1) (n : Nat) : ownV (1 - a) c n = - ownV a c n := by
  unfold ownV
  rcases letter_side c hc with ⟨_, h⟩ | ⟨_, h⟩ | ⟨_, h⟩
  · rw [pieceV_none (by omega)]; simp
  · rcases ha with rfl | rfl <;> simp [h]
  · rcases ha with rfl | rfl <;> simp [h]
/-- What it is worth to the other side behind a move. -/
theorem val_moved {p q : Pos} {m : Mv} {c : Nat} (h : OkMv p q m c) : valS q.cells q.side = pieceV (cel p.cells m.1) m.1 - pieceV (cel p.cells m.1) m.2 - pieceV c m.2 - valS p.cells p.side := by
  have hsd := h.sd
  have hne := h.ne
  have hbd := h.bd
  have e0 : valS q.cells q.side = - sumV (fun n => ownV p.side (moveC (cel p.cells) m.1 m.2 n) n) 90 := by
    unfold valS
    rw [← sumV_neg]
    refine sumV_congr fun i hi => ?_
    show ownV q.side (cel q.cells i) i = - ownV p.side (moveC (cel p.cells) m.1 m.2 i) i
    rw [← h.qcel hi, h.qs]
    exact ownV_flip (board_cell h.qbd hi) hsd i
  have e1 := sumV_at (f := fun n => ownV p.side (moveC (cel p.cells) m.1 m.2 n) n) (g := fun n => ownV p.side (if n = m.2 then cel p.cells m.1 else cel p.cells n) n) h.a90 (fun i hi => by
    show ownV p.side (moveC (cel p.cells) m.1 m.2 i) i = _
    unfold moveC setC
    rw [if_neg hi])
  have e2 := sumV_at (f := fun n => ownV p.side (if n = m.2 then cel p.cells m.1 else cel p.cells n) n) (g := fun n => ownV p.side (cel p.cells n) n) h.b90 (fun i hi => by
    show ownV p.side (if i = m.2 then cel p.cells m.1 else cel p.cells i) i = _
    rw [if_neg hi])
  have f1 : ownV p.side (moveC (cel p.cells) m.1 m.2 m.1) m.1 = 0 := by
    unfold moveC setC
    rw [if_pos rfl]
    unfold ownV
    rw [pieceV_none (by decide)]
    simp
  have f2 : ownV p.side (if m.1 = m.2 then cel p.cells m.1 else cel p.cells m.1) m.1 = pieceV (cel p.cells m.1) m.1 := by
    rw [if_neg hne]; unfold ownV; rw [if_pos h.own]
  have f3 : ownV p.side (if m.2 = m.2 then cel p.cells m.1 else cel p.cells m.2) m.2 = pieceV (cel p.cells m.1) m.2 := by
    rw [if_pos rfl]; unfold ownV; rw [if_pos h.own]
  have f4 : ownV p.side (cel p.cells m.2) m.2 = - pieceV c m.2 := by
    unfold ownV
    rw [if_neg h.oth, h.tk]
    by_cases h46 : cel p.cells m.2 = 46
    · rw [if_pos h46, h46, pieceV_none (by decide), pieceV_none (by decide)]
    · rw [if_neg h46]
  rw [f1, f2] at e1
  rw [f3, f4] at e2
  have e3 : valS p.cells p.side = sumV (fun n => ownV p.side (cel p.cells n) n) 90 := rfl
  rw [e0, e3]
  omega
end Go.Proofs.YtdkghbbjillboaaGreatDoor.K

/- Walks of value: Kind, Piece. -/
namespace Go.Proofs.YtdkghbbjillboaaGreatDoor.K
open Go.RowKit Go.Lib Go.Proofs.YtdkghbbjillboaaGreatDoorW.PrintWords Go.Proofs.YtdkghbbjillboaaGreatDoor.Sp
set_option linter.unusedVariables false
set_option linter.unusedSimpArgs false
theorem kindN_opts : ∀ x : Fin 256, kindN x.1 = 0 ∨ kindN x.1 = 75 ∨ kindN x.1 = 65 ∨ kindN x.1 = 66 ∨ kindN x.1 = 78 ∨ kindN x.1 = 67 ∨ kindN x.1 = 82 ∨ kindN x.1 = 80 := by decide +kernel
theorem side_kind : ∀ x : Fin 256, 0 ≤ sideN x.1 → kindN x.1 ≠ 0 := by decide +kernel
theorem idxK_0 : Lib.indexByte [75, 65, 66, 78, 67, 82, 80] (UInt8.ofNat 0) = -1 := by decide
theorem idxK_75 : Lib.indexByte [75, 65, 66, 78, 67, 82, 80] (UInt8.ofNat 75) = 0 := by decide
theorem idxK_65 : Lib.indexByte [75, 65, 66, 78, 67, 82, 80] (UInt8.ofNat 65) = 1 := by decide
theorem idxK_66 : Lib.indexByte [75, 65, 66, 78, 67, 82, 80] (UInt8.ofNat 66) = 2 := by decide
theorem idxK_78 : Lib.indexByte [75, 65, 66, 78, 67, 82, 80] (UInt8.ofNat 78) = 3 := by decide
theorem idxK_67 : Lib.indexByte [75, 65, 66, 78, 67, 82, 80] (UInt8.ofNat 67) = 4 := by decide
theorem idxK_82 : Lib.indexByte [75, 65, 66, 78, 67, 82, 80] (UInt8.ofNat 82) = 5 := by decide
theorem idxK_80 : Lib.indexByte [75, 65, 66, 78, 67, 82, 80] (UInt8.ofNat 80) = 6 := by decide
set_option maxRecDepth 100000 in
set_option maxHeartbeats 2000000 in
theorem vkind_c (x : Nat) (hx : x < 256) (w : World) : Calls Tryz.prog 73 #[.int .u8 (x : Int)] w fun e w' => e = .returned (.int .i64 (kindV (kindN x))) ∧ Below w.heap.size w w' := by
  have HK := Aside0.mk (fun W => kind_c x hx W)
  rcases kindN_opts ⟨x, hx⟩ with h | h | h | h | h | h | h | h
  all_goals
    simp only at h
    simp only [h] at HK
    rw [h]
    clear h
    go_enter Tryz.func73, Tryz.ntmps73
    go_wp2_with (first | (go_at_call 60; refine (HK.out _).mono ?_; rintro e w' ⟨rfl, rfl⟩) | (go_at_call 79; refine (Tryz.strings_IndexByte _ _ _).mono ?_; rintro e w' ⟨rfl, rfl⟩; simp only [idxK_0, idxK_75, idxK_65, idxK_66, idxK_78, idxK_67, idxK_82, idxK_80]))
    go_ret
    exact ⟨rfl, by (repeat' (first | (with_reducible exact Below.refl _ _) | (with_reducible refine pw_below_drewN ?_ _) | (with_reducible refine below_alloc ?_ _) | (with_reducible refine Below.drew ?_) | (with_reducible refine Below.setCell ?_ ?_ _) | (simp; done)))⟩
theorem pieceV_side {x : Nat} (h : ¬ sideN x < 0) (n : Nat) : pieceV x n = kindV (kindN x) + (if kindN x = 80 then (if overN n (sideN x) = true then (if asideN n ≤ 1 then 50 else 40) else 0) else if kindN x = 78 ∨ kindN x = 67 ∨ kindN x = 82 then rankN x n + 4 - asideN n else 0) := by unfold pieceV; rw [if_neg h]
theorem side_opts (x : Nat) : sideN x = -1 ∨ sideN x = 0 ∨ sideN x = 1 := by have := sideN_le x; omega
theorem aside_eq {n : Nat} (hn : n < 90) : max (((n % 9 : Nat) : Int) - 4) (4 - ((n % 9 : Nat) : Int)) = asideN n := rfl
set_option maxRecDepth 100000 in
set_option maxHeartbeats 4000000 in
theorem piece_c (x n : Nat) (hx : x < 256) (hn : n < 90) (w : World) : Calls Tryz.prog 45 #[.int .u8 (x : Int), .int .i64 (n : Int)] w fun e w' => e = .returned (.int .i64 (pieceV x n)) ∧ Below w.heap.size w w' := by
  have HF := Aside0.mk (fun W => file_c n hn W)
  have HR := Aside0.mk (fun W => rank_c n hn W)
  have HV := Aside0.mk (fun W => vkind_c x hx W)
  have HK := Aside0.mk (fun W => kind_c x hx W)
  have HS := Aside0.mk (fun W => side_c x hx W)
  rcases side_opts x with hs | hs | hs
  · rw [pieceV_none (by omega)]
    rw [hs] at HS
    have hf0 : ((n % 9 : Nat) : Int) ≤ 8 := by omega
    have hr0 : ((n / 9 : Nat) : Int) ≤ 9 := by omega
    go_enter Tryz.func45, Tryz.ntmps45
    go_wp2_with (first | (go_at_call 44; refine (HS.out _).mono ?_; rintro e w' ⟨rfl, rfl⟩) | (go_at_call 62; refine (HF.out _).mono ?_; rintro e w' ⟨rfl, rfl⟩) | (go_at_call 80; refine (HR.out _).mono ?_; rintro e w' ⟨rfl, rfl⟩))
    go_ret
    exact ⟨rfl, by (repeat' (first | (with_reducible exact Below.refl _ _) | (with_reducible refine pw_below_drewN ?_ _) | (with_reducible refine below_alloc ?_ _) | (with_reducible refine Below.drew ?_) | (with_reducible refine Below.setCell ?_ ?_ _) | (simp; done)))⟩
  all_goals
    have HO := Aside0.mk (fun W => Over_c (n : Int) (sideN x) W)
    have hov : overS (n : Int) (sideN x) = overN n (sideN x) := by unfold overS; rw [decide_eq_true (by omega), Bool.true_and, Int.toNat_natCast]
    rw [pieceV_side (by omega)]
    rw [hov] at HO
    rw [hs] at HS HO ⊢
    have hkv := kindV_le (kindN x)
    have HX := Aside0.mk hs
    have hf0 : ((n % 9 : Nat) : Int) ≤ 8 := by omega
    have hr0 : ((n / 9 : Nat) : Int) ≤ 9 := by omega
    unfold asideN rankN
    rw [hs]
    generalize overN n _ = ov at *
    generalize kindV (kindN x) = kv at *
    rcases kindN_opts ⟨x, hx⟩ with h | h | h | h | h | h | h | h
    all_goals
      simp only at h
      simp only [h] at HK ⊢
      have HH := Aside0.mk h
      generalize n % 9 = f at *
      generalize n / 9 = r at *
      clear h hs hov
      cases ov
      all_goals
        go_enter Tryz.func45, Tryz.ntmps45
        go_wp2_with (first | (go_at_call 44; refine (HS.out _).mono ?_; rintro e w' ⟨rfl, rfl⟩) | (go_at_call 62; refine (HF.out _).mono ?_; rintro e w' ⟨rfl, rfl⟩) | (go_at_call 80; refine (HR.out _).mono ?_; rintro e w' ⟨rfl, rfl⟩) | (go_at_call 60; refine (HK.out _).mono ?_; rintro e w' ⟨rfl, rfl⟩) | (go_at_call 73; refine (HV.out _).mono ?_; rintro e w' ⟨rfl, hb⟩) | (go_at_call 81; refine (HO.out _).mono ?_; rintro e w' ⟨rfl, hb2⟩))
        all_goals
          go_ret
          refine ⟨ret_int ?_, ?_⟩
          · first | (simp; done) | (simp; omega) | omega
          · first | exact hb | exact below_go hb hb2
end Go.Proofs.YtdkghbbjillboaaGreatDoor.K

/- slices.SortStableFunc at []api.Move, of at most twenty: what lies there then is what lay there, in some order. -/
namespace Go.Proofs.YtdkghbbjillboaaGreatDoor.K
open Go.RowKit Go.Lib Go.Proofs.YtdkghbbjillboaaGreatDoorW.PrintWords Go.Proofs.YtdkghbbjillboaaGreatDoorW.PrintLast Go.Proofs.YtdkghbbjillboaaGreatDoorW.PrintMore
set_option linter.unusedVariables false
set_option linter.unusedSimpArgs false
/-- What a function value owes that holds two of a list's moves against one another. -/
def CmpM (g : Nat) (lb : Array Value) (cf : Mv → Mv → Int) (xs : List Mv) (b : Nat) (w : World) : Prop :=
  ∀ (W : World) (x y : Mv), x ∈ xs → y ∈ xs → KeepBut w W b none → Calls Tryz.prog g (#[mvV x, mvV y] ++ lb) W fun e W' => e = .returned (.int .i64 (cf x y)) ∧ Below W.heap.size W W'
/-- The row: the same moves, in some order. -/
structure PermAt (base b cap : Nat) (xs : List Mv) (B0 : Nat) (w W : World) (cur : List Mv) : Prop where
  pm : cur.Perm xs
  own : W.ownsRow base 54 2 (.slice (some ⟨b, 0, none⟩) xs.length cap) xs.length (flatM cur)
  keep : KeepBut w W b none
  bel : Below B0 w W
  hb : B0 ≤ b
  hz : B0 ≤ w.heap.size
section
variable {base b cap B0 : Nat} {xs cur : List Mv} {w W W' : World}
theorem PermAt.len (h : PermAt base b cap xs B0 w W cur) : cur.length = xs.length := h.pm.length_eq
theorem PermAt.below (h : PermAt base b cap xs B0 w W cur) (hb : Below W.heap.size W W') : PermAt base b cap xs B0 w W' cur :=
  ⟨h.pm, pw_own_below h.own hb, keep_then_below h.keep hb, below_then h.bel (Nat.le_trans h.hz h.bel.size) hb, h.hb, h.hz⟩
theorem PermAt.drew (h : PermAt base b cap xs B0 w W cur) : PermAt base b cap xs B0 w W.drew cur := h.below (pw_below_drewN (Below.refl _ _) 1)
theorem PermAt.ownc (h : PermAt base b cap xs B0 w W cur) : W.ownsRow base 54 2 (.slice (some ⟨b, 0, none⟩) cur.length cap) cur.length (flatM cur) := by rw [h.len]; exact h.own
theorem PermAt.cells (h : PermAt base b cap xs B0 w W cur) (i : Nat) (hi : i < xs.length) : W.cell? ⟨b, i * 2, none⟩ = some (.int .i64 ((cur.getD i (0, 0)).1 : Int)) ∧ W.cell? ⟨b, i * 2 + 1, none⟩ = some (.int .i64 ((cur.getD i (0, 0)).2 : Int)) :=
  OwnM.cellsAt h.own i (by rw [h.len]; exact hi)
theorem PermAt.free (h : PermAt base b cap xs B0 w W cur) (i : Nat) : W.frozen? ⟨b, i, none⟩ = false := OwnM.free h.own i
theorem PermAt.mem (h : PermAt base b cap xs B0 w W cur) (i : Nat) (hi : i < xs.length) : cur.getD i (0, 0) ∈ xs := by
  have hl := h.len
  rw [List.getD_eq_getElem?_getD, List.getElem?_eq_getElem (by omega)]
  exact h.pm.subset (List.getElem_mem _)
theorem swap_perm {l : List Mv} {i j : Nat} (hi : i < l.length) (hj : j < l.length) : ((l.set i (l.getD j (0, 0))).set j (l.getD i (0, 0))).Perm l := by
  rw [List.getD_eq_getElem?_getD, List.getD_eq_getElem?_getD, List.getElem?_eq_getElem hi, List.getElem?_eq_getElem hj]
  exact List.set_set_perm hi hj
/-- Two of them change places. -/
theorem PermAt.swap (h : PermAt base b cap xs B0 w W cur) {i j : Nat} (hi : i < xs.length) (hj : j < xs.length) {x y : Mv} (hx : cur.getD i (0, 0) = x) (hy : cur.getD j (0, 0) = y) :
    PermAt base b cap xs B0 w ((((W.setCell ⟨b, i * 2, none⟩ (.int .i64 (y.1 : Int))).setCell ⟨b, i * 2 + 1, none⟩ (.int .i64 (y.2 : Int))).setCell ⟨b, j * 2, none⟩ (.int .i64 (x.1 : Int))).setCell ⟨b, j * 2 + 1, none⟩ (.int .i64 (x.2 : Int))) ((cur.set i y).set j x) := by
  have hl := h.len
  refine ⟨?_, ?_, ?_, ?_, h.hb, h.hz⟩
  · rw [← hx, ← hy]
    exact (swap_perm (by omega) (by omega)).trans h.pm
  · exact OwnM.put (OwnM.put h.own i y) j x
  · exact (((h.keep.set_ (i * 2) _).set_ (i * 2 + 1) _).set_ (j * 2) _).set_ (j * 2 + 1) _
  · exact (((h.bel.setCell (p := ⟨b, i * 2, none⟩) h.hb _).setCell (p := ⟨b, i * 2 + 1, none⟩) h.hb _).setCell (p := ⟨b, j * 2, none⟩) h.hb _).setCell (p := ⟨b, j * 2 + 1, none⟩) h.hb _
end
end Go.Proofs.YtdkghbbjillboaaGreatDoor.K

/- quiet: the closures of captures. -/
namespace Go.Proofs.YtdkghbbjillboaaGreatDoor.K
open Go.RowKit Go.Lib Go.Proofs.YtdkghbbjillboaaGreatDoorW.PrintWords Go.Proofs.YtdkghbbjillboaaGreatDoor.Sp
set_option linter.unusedVariables false
set_option linter.unusedSimpArgs false
theorem at_cel {s : ByteArray} (hb : isBoard s = true) {n : Nat} (hn : n < 90) : atS s (n : Int) = cel s n := by
  unfold atS; rw [if_pos ⟨hb, by omega, by omega⟩, Int.toNat_natCast]
set_option maxRecDepth 100000 in
set_option maxHeartbeats 2000000 in
theorem qcap1_c (p : Pos) (B : Nat) (m : Mv) (hbd : isBoard p.cells = true) (hm : m.2 < 90) (w : World) (hx : BoxP w B p) : Calls Tryz.prog 69 #[mvV m, .pointer (some ⟨B, 0, none⟩)] w fun e w' => e = .returned (.bool (cel p.cells m.2 == 46)) ∧ Below w.heap.size w w' := by
  have HS := fun W => at_c p.cells (m.2 : Int) W
  simp only [at_cel hbd hm] at HS
  have HS := Aside0.mk HS
  have HB := Aside0.mk (hx.below (below_alloc (Below.refl _ _) (.cells #[.int .i64 (m.1 : Int), .int .i64 (m.2 : Int)] 54)))
  have hu := Tryz.underlying23
  have hu2 := Tryz.underlying54
  have hq : (((cel p.cells m.2 : Nat) : Int) == 46) = (cel p.cells m.2 == 46) := by rw [Bool.eq_iff_iff, beq_iff_eq, beq_iff_eq]; omega
  generalize cel p.cells m.2 = c at *
  obtain ⟨c0, c1, c2, c3⟩ := HB.out
  have hne : w.heap.size ≠ B := World.new_ne w _ hx.c0
  clear hx hbd hm
  go_enter Tryz.func69, Tryz.ntmps69
  go_wp2_with (go_at_call 42; refine (HS.out _).mono ?_; rintro e w2 ⟨rfl, hb⟩; have HC := Aside0.mk (below_go (below_alloc (Below.refl _ _) _) hb); clear hb)
  go_ret
  exact ⟨rfl, HC.out⟩
def capI (p : Pos) (x y : Mv) : Int := Lib.compareInt (kindV (kindN (cel p.cells y.2))) (kindV (kindN (cel p.cells x.2)))
set_option maxRecDepth 100000 in
set_option maxHeartbeats 4000000 in
theorem qcap2_c (p : Pos) (B : Nat) (x y : Mv) (hbd : isBoard p.cells = true) (hx2 : x.2 < 90) (hy2 : y.2 < 90) (w : World) (hx : BoxP w B p) : Calls Tryz.prog 71 #[mvV x, mvV y, .pointer (some ⟨B, 0, none⟩)] w fun e w' => e = .returned (.int .i64 (capI p x y)) ∧ Below w.heap.size w w' := by
  have HS1 := fun W => at_c p.cells (x.2 : Int) W
  have HS2 := fun W => at_c p.cells (y.2 : Int) W
  simp only [at_cel hbd hx2] at HS1
  simp only [at_cel hbd hy2] at HS2
  have HS1 := Aside0.mk HS1
  have HS2 := Aside0.mk HS2
  have HK1 := Aside0.mk (fun W => vkind_c (cel p.cells x.2) (cel_lt _ _) W)
  have HK2 := Aside0.mk (fun W => vkind_c (cel p.cells y.2) (cel_lt _ _) W)
  have HB := Aside0.mk (hx.below (below_alloc (below_alloc (Below.refl _ _) (.cells #[.int .i64 (x.1 : Int), .int .i64 (x.2 : Int)] 54)) (.cells #[.int .i64 (y.1 : Int), .int .i64 (y.2 : Int)] 54)))
  have hu := Tryz.underlying23
  have hu2 := Tryz.underlying54
  have HE := Aside0.mk (show capI p x y = Lib.compareInt (kindV (kindN (cel p.cells y.2))) (kindV (kindN (cel p.cells x.2))) from rfl)
  generalize capI p x y = r at *
  generalize kindV (kindN (cel p.cells x.2)) = kx at *
  generalize kindV (kindN (cel p.cells y.2)) = ky at *
  generalize cel p.cells x.2 = cx at *
  generalize cel p.cells y.2 = cy at *
  obtain ⟨c0, c1, c2, c3⟩ := HB.out
  have hne : w.heap.size ≠ B := World.new_ne w _ hx.c0
  clear hx hbd hx2 hy2
  go_enter Tryz.func71, Tryz.ntmps71
  go_upto_region 1 with fail
  have HL := Aside0.mk (below_alloc (below_alloc (Below.refl w.heap.size w) (.cells #[.int .i64 (x.1 : Int), .int .i64 (x.2 : Int)] 54)) (.cells #[.int .i64 (y.1 : Int), .int .i64 (y.2 : Int)] 54))
  have a1 : ((w.alloc (.cells #[.int .i64 (x.1 : Int), .int .i64 (x.2 : Int)] 54)).alloc (.cells #[.int .i64 (y.1 : Int), .int .i64 (y.2 : Int)] 54)).cell? ⟨w.heap.size, 1, none⟩ = some (.int .i64 (x.2 : Int)) := by simp [World.cell?_alloc_at, World.cell?_alloc_past]
  have b1 : ((w.alloc (.cells #[.int .i64 (x.1 : Int), .int .i64 (x.2 : Int)] 54)).alloc (.cells #[.int .i64 (y.1 : Int), .int .i64 (y.2 : Int)] 54)).cell? ⟨w.heap.size + 1, 1, none⟩ = some (.int .i64 (y.2 : Int)) := by simp [World.cell?_alloc_at]
  clear c0 c1 c2 c3 hne
  generalize (w.alloc (.cells #[.int .i64 (x.1 : Int), .int .i64 (x.2 : Int)] 54)).alloc (.cells #[.int .i64 (y.1 : Int), .int .i64 (y.2 : Int)] 54) = W1 at *
  have HA := Aside0.mk (And.intro a1 b1)
  clear a1 b1
  have c0 := fun q : BelowOf W1 => q.cell HB.out.c0
  have a1 := fun q : BelowOf W1 => q.cell HA.out.1
  have b1 := fun q : BelowOf W1 => q.cell HA.out.2
  refine wp_region_below (by kernel_rfl) ?_
  repeat (quiet_step (first
    | (go_at_call 42; first | (with_reducible exact BelowOf.calls (HS1.out _)) | (with_reducible exact BelowOf.calls (HS2.out _)))
    | (go_at_call 73; first | (with_reducible exact BelowOf.calls (HK1.out _)) | (with_reducible exact BelowOf.calls (HK2.out _)))
    | (go_at_call 72; exact BelowOf.same (Tryz.cmp_Compare_int _ _ _))))
  refine wpQuiet_nil ?_
  rintro w2 ⟨⟨_, hb⟩, rfl⟩
  have HR := Aside0.mk (below_go HL.out hb)
  clear hb c0 a1 b1
  go_wp2_with fail
  go_ret
  exact ⟨ret_int (by rw [HE.out]), HR.out⟩
end Go.Proofs.YtdkghbbjillboaaGreatDoor.K

/- slices.SortStableFunc at []api.Move: insertion sort; at most twenty. -/
namespace Go.Proofs.YtdkghbbjillboaaGreatDoor.K
open Go.RowKit Go.Lib Go.Proofs.YtdkghbbjillboaaGreatDoorW.PrintWords Go.Proofs.YtdkghbbjillboaaGreatDoorW.PrintLast Go.Proofs.YtdkghbbjillboaaGreatDoorW.PrintMore
set_option linter.unusedVariables false
set_option linter.unusedSimpArgs false
set_option maxRecDepth 100000 in
set_option maxHeartbeats 4000000 in
theorem ins_M (g : Nat) (lb : Array Value) (cf : Mv → Mv → Int) (eg : ∀ args w, (callFunc g args).run Tryz.prog w = .ok (.enter g args) w) (base b cap a n : Nat) (xs : List Mv) (B0 : Nat) (w W : World) (cur0 : List Mv)
    (hc : CmpM g lb cf xs b w) (hP : PermAt base b cap xs B0 w W cur0) (hn : n ≤ xs.length) (hlen : xs.length ≤ 1000000) (han : a ≤ 1000000) :
    Calls Tryz.prog 121 #[.slice (some ⟨b, 0, none⟩) xs.length cap, .int .i64 a, .int .i64 n, .func (.func g) #[] lb] W fun e w' => e = .returned (.tuple #[]) ∧ ∃ cur, PermAt base b cap xs B0 w w' cur := by
  have HC := Aside0.mk hc
  have HP0 := Aside0.mk hP
  have hu2 := Tryz.underlying54
  clear hc hP
  go_enter Tryz.func121, Tryz.ntmps121
  go_wp2
  go_loopg [8] (n - a) (fun g1 vi wr => ∃ (i : Nat) (cur : List Mv), vi = .int .i64 i ∧ a < i ∧ i ≤ max (a + 1) n ∧ n - i ≤ g1 ∧ Aside0 (PermAt base b cap xs B0 w wr cur))
  case atStart => exact ⟨a + 1, cur0, by go_num, by omega, by omega, by omega, HP0⟩
  case round =>
    obtain ⟨i, cur, rfl, hai, hib, hg1, HP⟩ := hrel
    clear HP0
    by_cases hlt : i < n
    · have hltz : (i : Int) < (n : Int) := by omega
      go_wp2
      go_loopg [9] i (fun g2 vj wr2 => ∃ (j : Nat) (cj : List Mv), vj = .int .i64 j ∧ j ≤ i ∧ a ≤ j ∧ j ≤ g2 ∧ Aside0 (PermAt base b cap xs B0 w wr2 cj))
      case atStart => exact ⟨i, cur, rfl, Nat.le_refl _, Nat.le_of_lt hai, Nat.le_refl _, HP⟩
      case round =>
        clear HP
        obtain ⟨j, cj, rfl, hji, haj, hg2, HJ⟩ := hrel
        by_cases hja : a < j
        · obtain ⟨k, rfl⟩ : ∃ k, j = k + 1 := ⟨j - 1, by omega⟩
          have hjaz : (a : Int) < (k : Int) + 1 := by omega
          have hwk : IntKind.i64.wrap (k : Int) = (k : Int) := by rw [IntKind.wrap_i64]; omega
          have jz : (k : Int) + 1 < (xs.length : Int) := by omega
          have jz1 : (k : Int) < (xs.length : Int) := by omega
          have jz2 : (0 : Int) ≤ (k : Int) + 1 := by omega
          have e0 : ((k : Int) + 1).toNat = k + 1 := by omega
          obtain ⟨p0, p1⟩ := HJ.out.cells (k + 1) (by omega)
          obtain ⟨q0, q1⟩ := HJ.out.cells k (by omega)
          have hmx := HJ.out.mem (k + 1) (by omega)
          have hmy := HJ.out.mem k (by omega)
          obtain ⟨x, HX⟩ : ∃ x, Hid (cj.getD (k + 1) (0, 0) = x) := ⟨_, rfl⟩
          obtain ⟨y, HY⟩ : ∃ y, Hid (cj.getD k (0, 0) = y) := ⟨_, rfl⟩
          rw [HX.out] at p0 p1 hmx
          rw [HY.out] at q0 q1 hmy
          obtain ⟨xa, xb⟩ := x
          obtain ⟨ya, yb⟩ := y
          simp only at p0 p1 q0 q1
          have HCC := Aside0.mk (fun q : BelowOf wr => HC.out q.W (xa, xb) (ya, yb) hmx hmy (keep_then_below HJ.out.keep q.bel))
          have HPQ := Aside0.mk (And.intro (And.intro p0 p1) (And.intro q0 q1))
          clear p0 p1 q0 q1 hmx hmy
          have p0 := fun q : BelowOf wr => q.cell HPQ.out.1.1
          have p1 := fun q : BelowOf wr => q.cell HPQ.out.1.2
          have q0 := fun q : BelowOf wr => q.cell HPQ.out.2.1
          have q1 := fun q : BelowOf wr => q.cell HPQ.out.2.2
          by_cases hlv : cf (xa, xb) (ya, yb) < 0
          · go_wp2_with fail
            refine wp_region_below (by kernel_rfl) ?_
            repeat (quiet_step ((go_at_fn g; exact BelowOf.calls (HCC.out _))))
            refine wpQuiet_nil ?_
            rintro w2 ⟨⟨_, hb⟩, rfl⟩
            have HJ2 := Aside0.mk (HJ.out.below hb)
            clear p0 p1 q0 q1 hb HPQ HCC HJ
            obtain ⟨p0, p1⟩ := HJ2.out.cells (k + 1) (by omega)
            obtain ⟨q0, q1⟩ := HJ2.out.cells k (by omega)
            rw [HX.out] at p0 p1
            rw [HY.out] at q0 q1
            have fr := HJ2.out.free
            simp only at p0 p1 q0 q1
            go_wp2_with fail
            go_region
            all_goals
              go_wp2_with fail
              go_roundg k
              case measure => omega
              case rel => exact ⟨k, _, rfl, by omega, by omega, Nat.le_refl _, ⟨(HJ2.out.swap (by omega) (by omega) HX.out HY.out).drew⟩⟩
          · go_wp2_with fail
            refine wp_region_below (by kernel_rfl) ?_
            repeat (quiet_step ((go_at_fn g; exact BelowOf.calls (HCC.out _))))
            refine wpQuiet_nil ?_
            rintro w2 ⟨⟨_, hb⟩, rfl⟩
            have HJ2 := Aside0.mk (HJ.out.below hb)
            clear p0 p1 q0 q1 hb HPQ HCC HJ
            go_wp2_with fail
            go_roundg (n - (i + 1))
            case measure => omega
            case rel => exact ⟨i + 1, cj, by go_num, by omega, by omega, Nat.le_refl _, HJ2⟩
        · have hjaz : ¬ (a : Int) < (j : Int) := by omega
          clear hji hg2 haj
          go_wp2_with fail
          go_region
          all_goals
            go_wp2_with fail
            go_roundg (n - (i + 1))
            case measure => omega
            case rel => exact ⟨i + 1, cj, by go_num, by omega, by omega, Nat.le_refl _, ⟨HJ.out.drew⟩⟩
    · have hltz : ¬ (i : Int) < (n : Int) := by omega
      go_wp2
      go_end0
      exact ⟨rfl, cur, HP.out⟩
end Go.Proofs.YtdkghbbjillboaaGreatDoor.K

/- Plain law: how many lines there are. -/
namespace Go.Proofs.YtdkghbbjillboaaGreatDoor.K
open Go.RowKit Go.Lib Go.Proofs.YtdkghbbjillboaaGreatDoorW.PrintWords Go.Proofs.YtdkghbbjillboaaGreatDoor.Sp
set_option linter.unusedVariables false
set_option linter.unusedSimpArgs false
/-- How many lines there are, of a board that is right. -/
def linesR (s : ByteArray) (a : Int) : Nat → Nat
  | 0 => 1
  | d + 1 => ((legalR s a).map (fun m => linesR (movedB s m.1 m.2) (1 - a) d)).sum
theorem sum_le {α : Type} (l : List α) (f : α → Nat) (b : Nat) (h : ∀ x ∈ l, f x ≤ b) : (l.map f).sum ≤ l.length * b := by
  induction l with
  | nil => simp
  | cons x r ih =>
    have h1 := h x List.mem_cons_self
    have h2 := ih (fun y hy => h y (List.mem_cons_of_mem _ hy))
    simp only [List.map_cons, List.sum_cons, List.length_cons]
    rw [Nat.succ_mul]
    omega
theorem legalR_len (s : ByteArray) (a : Int) : (legalR s a).length ≤ 8100 := Nat.le_trans (List.length_filter_le _ _) (gathM_len s a _ 90)
theorem lines_le : ∀ (d : Nat) (s : ByteArray) (a : Int), linesR s a d ≤ 8100 ^ d
  | 0, _, _ => Nat.le_refl _
  | d + 1, s, a => by
    unfold linesR
    refine Nat.le_trans (sum_le _ _ (8100 ^ d) (fun m _ => lines_le d _ _)) ?_
    rw [Nat.pow_succ, Nat.mul_comm]
    exact Nat.mul_le_mul_left _ (legalR_len s a)
theorem lines_one (s : ByteArray) (a : Int) : linesR s a 1 = (legalR s a).length := by
  unfold linesR
  have : ∀ l : List Mv, (l.map (fun m => linesR (movedB s m.1 m.2) (1 - a) 0)).sum = l.length := by
    intro l
    induction l with
    | nil => rfl
    | cons x r ih =>
      simp only [List.map_cons, List.sum_cons, List.length_cons, ih]
      show 1 + r.length = r.length + 1
      omega
  exact this _
/-- Behind a move that may be made. -/
theorem legal_next {p : Pos} {m : Mv} (hm : m ∈ legalL p) : (makeP p (mviOf m)).1.cells = movedB p.cells m.1 m.2 ∧ (makeP p (mviOf m)).1.side = 1 - p.side ∧ wellS (makeP p (mviOf m)).1 = 0 ∧ (makeP p (mviOf m)).2.2 = 0 := by
  obtain ⟨hw, hg, hs⟩ := legal_mem.1 hm
  have hck := well_check hw
  have hgd := safe_is_good hck hs
  obtain ⟨mb, h1, _, _, h4⟩ := legal_make hm
  refine ⟨?_, by rw [h1], h4, by rw [h1]⟩
  rw [make_ok hw hs, apply_good hck hgd]
  rfl
theorem lines_turn : ∀ (d : Nat) (p : Pos), wellS p = 0 → linesR (turnS p.cells) (1 - p.side) d = linesR p.cells p.side d
  | 0, _, _ => rfl
  | d + 1, p, hw => by
    have hck := well_check hw
    obtain ⟨hbd, hsd, _⟩ := argOk_yes (checkP_parts hck).1
    have hwt : wellS (turnP p) = 0 := by rw [well_turn hbd hsd, hw]
    have e1 : legalR (turnS p.cells) (1 - p.side) = ((legalR p.cells p.side).map flipM).reverse := by
      have := legal_turn hbd hsd
      rw [legal_eq hw, legal_eq hwt] at this
      exact this
    unfold linesR
    rw [e1, List.map_reverse, List.sum_reverse, List.map_map]
    congr 1
    refine List.map_congr_left fun m hm => ?_
    have hm' : m ∈ legalL p := by rw [legal_eq hw]; exact hm
    obtain ⟨_, hg, hs⟩ := legal_mem.1 hm'
    obtain ⟨_, h1, h2, h3, h4, _⟩ := gath_mem hg
    obtain ⟨_, _, _, hab, _⟩ := move_parts hck h1 h2 h3 h4
    obtain ⟨q1, q2, q3, _⟩ := legal_next hm'
    have hq := (argOk_yes (checkP_parts (well_check q3)).1).1
    rw [q1] at hq
    show linesR (movedB (turnS p.cells) (89 - m.1) (89 - m.2)) (1 - (1 - p.side)) d = _
    rw [moved_turn hbd hq h1 h2 hab]
    have := lines_turn d (makeP p (mviOf m)).1 q3
    rw [q1, q2] at this
    exact this
end Go.Proofs.YtdkghbbjillboaaGreatDoor.K

/- Plain law of quiet: what a position is worth when all captures are done; what lies between two bounds. -/
namespace Go.Proofs.YtdkghbbjillboaaGreatDoor.K
open Go.RowKit Go.Lib Go.Proofs.YtdkghbbjillboaaGreatDoorW.PrintWords Go.Proofs.YtdkghbbjillboaaGreatDoor.Sp
set_option linter.unusedVariables false
set_option linter.unusedSimpArgs false
/-- Behind a move that may be made. -/
theorem legal_step8 {p : Pos} {m : Mv} (hm : m ∈ legalL p) : ∃ q c, makeP p (mviOf m) = (q, c, 0) ∧ wellS q = 0 ∧ OkMv p q m c ∧ q.cells = movedB p.cells m.1 m.2 ∧ q.side = 1 - p.side := by
  obtain ⟨hw, hg, hs⟩ := legal_mem.1 hm
  obtain ⟨q1, q2, q3, q4⟩ := legal_next hm
  rcases h : makeP p (mviOf m) with ⟨q, c, er⟩
  rw [h] at q1 q2 q3 q4
  simp only at q1 q2 q3 q4
  subst q4
  exact ⟨q, c, rfl, q3, okMv hw hs h, q1, q2⟩
/-- The moves that take something. -/
def takeL (s : ByteArray) (l : List Mv) : List Mv := l.filter (fun m => cel s m.2 != 46)
def bestF (f : Mv → Int) (b : Int) (l : List Mv) : Int := l.foldl (fun b m => max b (f m)) b
theorem bestF_cons (f : Mv → Int) (b : Int) (m : Mv) (l : List Mv) : bestF f b (m :: l) = bestF f (max b (f m)) l := rfl
theorem bestF_snoc (f : Mv → Int) (b : Int) (m : Mv) (l : List Mv) : bestF f b (l ++ [m]) = max (bestF f b l) (f m) := by simp [bestF]
theorem bestF_le (f : Mv → Int) (l : List Mv) : ∀ b, b ≤ bestF f b l := by
  induction l with
  | nil => exact fun b => Int.le_refl _
  | cons m r ih => exact fun b => Int.le_trans (Int.le_max_left b (f m)) (ih _)
theorem bestF_perm (f : Mv → Int) {l k : List Mv} (h : l.Perm k) : ∀ b, bestF f b l = bestF f b k := by
  induction h with
  | nil => exact fun _ => rfl
  | cons m _ ih => exact fun b => ih _
  | swap m n l => intro b; show bestF f (max (max b (f n)) (f m)) l = bestF f (max (max b (f m)) (f n)) l; congr 1; omega
  | trans _ _ ih1 ih2 => exact fun b => (ih1 b).trans (ih2 b)
theorem bestF_congr {f g : Mv → Int} (l : List Mv) (h : ∀ m ∈ l, f m = g m) : ∀ b, bestF f b l = bestF g b l := by
  induction l with
  | nil => exact fun _ => rfl
  | cons m r ih =>
    intro b
    show bestF f (max b (f m)) r = bestF g (max b (g m)) r
    rw [h m List.mem_cons_self, ih (fun x hx => h x (List.mem_cons_of_mem _ hx))]
theorem bestF_in (f : Mv → Int) (lo hi : Int) (l : List Mv) (h : ∀ m ∈ l, lo ≤ f m ∧ f m ≤ hi) : ∀ b, lo ≤ b → b ≤ hi → lo ≤ bestF f b l ∧ bestF f b l ≤ hi := by
  induction l with
  | nil => exact fun b h1 h2 => ⟨h1, h2⟩
  | cons m r ih =>
    intro b h1 h2
    have := h m List.mem_cons_self
    exact ih (fun x hx => h x (List.mem_cons_of_mem _ hx)) (max b (f m)) (by omega) (by omega)
/-- What a board is worth to the side whose move it is, so many captures deep. -/
def quietF : Nat → ByteArray → Int → Int
  | 0, _, _ => 0
  | k + 1, s, a => if legalR s a = [] then -10000 else bestF (fun m => - quietF k (movedB s m.1 m.2) (1 - a)) (valS s a) (takeL s (legalR s a))
theorem quietF_le : ∀ (k : Nat) (s : ByteArray) (a : Int), -30000 ≤ quietF k s a ∧ quietF k s a ≤ 30000
  | 0, _, _ => by unfold quietF; omega
  | k + 1, s, a => by
    have hv := valS_le s a
    unfold quietF
    split
    · omega
    · exact bestF_in _ _ _ _ (fun m _ => by have := quietF_le k (movedB s m.1 m.2) (1 - a); omega) _ (by omega) (by omega)
/-- A capture of a move that may be made: one piece less. -/
theorem take_less {p : Pos} (hw : wellS p = 0) {m : Mv} (hm : m ∈ takeL p.cells (legalR p.cells p.side)) : ∃ q : Pos, q.cells = movedB p.cells m.1 m.2 ∧ q.side = 1 - p.side ∧ wellS q = 0 ∧ nP q.cells + 1 = nP p.cells ∧ m ∈ legalL p := by
  obtain ⟨h1, h2⟩ := List.mem_filter.1 hm
  have hl : m ∈ legalL p := by rw [legal_eq hw]; exact h1
  obtain ⟨q, c, hmk, hwq, hok, hqc, hqs⟩ := legal_step8 hl
  have hc := hok.count
  have h46 : cel p.cells m.2 ≠ 46 := by simpa using h2
  have hcne : c ≠ 0 := by
    rw [hok.tk, if_neg h46]
    have hz : ∀ x ∈ letters, x ≠ 0 := by decide
    exact hz _ (board_cell hok.bd hok.b90)
  rw [if_neg hcne] at hc
  exact ⟨q, hqc, hqs, hwq, hc, hl⟩
/-- Deep enough is deep enough. -/
theorem quietF_more : ∀ (k : Nat) (p : Pos), wellS p = 0 → nP p.cells ≤ k → ∀ j, quietF (k + 1 + j) p.cells p.side = quietF (k + 1) p.cells p.side
  | 0, p, hw, hn, j => by
    rw [show 0 + 1 + j = j + 1 by omega]
    unfold quietF
    have he : takeL p.cells (legalR p.cells p.side) = [] := List.eq_nil_iff_forall_not_mem.2 (fun m hm => by
      obtain ⟨q, _, _, _, h, _⟩ := take_less hw hm
      omega)
    rw [he]
    rfl
  | k + 1, p, hw, hn, j => by
    rw [show k + 1 + 1 + j = (k + 1 + j) + 1 by omega]
    unfold quietF
    split
    · rfl
    · refine bestF_congr _ (fun m hm => ?_) _
      obtain ⟨q, hc, hs, hwq, h, _⟩ := take_less hw hm
      rw [← hc, ← hs]
      have := quietF_more k q hwq (by omega) j
      rw [this]
def quietP (p : Pos) : Int := quietF (nP p.cells + 1) p.cells p.side
theorem quietP_le (p : Pos) : -30000 ≤ quietP p ∧ quietP p ≤ 30000 := quietF_le _ _ _
theorem quietP_deep {p : Pos} (hw : wellS p = 0) {k : Nat} (hk : nP p.cells ≤ k) : quietF (k + 1) p.cells p.side = quietP p := by
  have := quietF_more (nP p.cells) p hw (Nat.le_refl _) (k - nP p.cells)
  rw [show nP p.cells + 1 + (k - nP p.cells) = k + 1 by omega] at this
  exact this
theorem quietP_no {p : Pos} (h : legalR p.cells p.side = []) : quietP p = -10000 := by unfold quietP quietF; rw [if_pos h]
theorem quietP_eq {p : Pos} (hw : wellS p = 0) (h : legalR p.cells p.side ≠ []) : ∃ f : Mv → Int, quietP p = bestF f (valS p.cells p.side) (takeL p.cells (legalR p.cells p.side)) ∧ ∀ m ∈ takeL p.cells (legalR p.cells p.side), ∀ q : Pos, q.cells = movedB p.cells m.1 m.2 → q.side = 1 - p.side → wellS q = 0 → f m = - quietP q := by
  refine ⟨fun m => - quietF (nP p.cells) (movedB p.cells m.1 m.2) (1 - p.side), if_neg h, fun m hm q hc hs hwq => ?_⟩
  obtain ⟨q', hc', _, _, hn, _⟩ := take_less hw hm
  have e : q.cells = q'.cells := by rw [hc, hc']
  show - quietF (nP p.cells) (movedB p.cells m.1 m.2) (1 - p.side) = - quietP q
  rw [← hc, ← hs, show nP p.cells = (nP p.cells - 1) + 1 by omega, quietP_deep hwq (by rw [e]; omega)]
/-- What of a value lies between two bounds. -/
def clipI (v low high : Int) : Int := min (max v low) high
theorem clip_neg (v low high : Int) (h : low ≤ high) : - clipI v (-high) (-low) = clipI (-v) low high := by unfold clipI; omega
/-- A round of within. -/
theorem within_round {cur high low b v : Int} (h1 : cur < high) (h2 : min cur high = min (max b low) high) : min (max cur (clipI v cur high)) high = min (max (max b v) low) high := by
  unfold clipI; omega
/-- Cut off: more can't be told. -/
theorem within_cut {cur high low b b2 : Int} (h1 : high ≤ cur) (h2 : min cur high = min (max b low) high) (h3 : b ≤ b2) : high = clipI b2 low high := by
  unfold clipI; omega
theorem within_end {cur high low b : Int} (h2 : min cur high = min (max b low) high) : min cur high = clipI b low high := h2
end Go.Proofs.YtdkghbbjillboaaGreatDoor.K

/- Plain law: of few pieces there are few captures. -/
namespace Go.Proofs.YtdkghbbjillboaaGreatDoor.K
open Go.RowKit Go.Lib Go.Proofs.YtdkghbbjillboaaGreatDoorW.PrintWords Go.Proofs.YtdkghbbjillboaaGreatDoor.Sp
set_option linter.unusedVariables false
set_option linter.unusedSimpArgs false
theorem filter_imp_len {α : Type} (f g : α → Bool) (l : List α) (h : ∀ x ∈ l, f x = true → g x = true) : (l.filter f).length ≤ (l.filter g).length := by
  rw [← List.countP_eq_length_filter, ← List.countP_eq_length_filter]
  induction l with
  | nil => simp
  | cons x r ih =>
    have h1 := ih (fun y hy => h y (List.mem_cons_of_mem _ hy))
    have h2 := h x List.mem_cons_self
    simp only [List.countP_cons]
    cases hf : f x
    · simp only [Bool.false_eq_true, if_false]; omega
    · rw [h2 hf]; simp only [if_true]; omega
theorem take_from {s : ByteArray} (hs : isBoard s = true) {a : Int} (ha : a = 0 ∨ a = 1) (x : Nat) (hx : x < 90) : (fromM s a (fun c => c != 46) x).length ≤ if sideN (cel s x) = a then (piecesS s (1 - a)).length else 0 := by
  unfold fromM
  split
  · rename_i hsx
    rw [List.length_map]
    unfold allN piecesS
    rw [if_pos hs, List.filter_filter]
    refine filter_imp_len _ _ _ (fun b hb hq => ?_)
    have hb90 : b < 90 := List.mem_range.1 hb
    simp only [Bool.and_eq_true, bne_iff_ne, ne_eq, decide_eq_true_eq] at hq ⊢
    obtain ⟨h46, hf⟩ := hq
    unfold fastN at hf
    simp only [Bool.and_eq_true, bne_iff_ne, ne_eq, decide_eq_true_eq] at hf
    have hne : sideN (cel s b) ≠ a := by rw [← hsx]; exact hf.1.2
    refine ⟨by omega, ?_⟩
    rcases letter_side _ (board_cell hs hb90) with ⟨h1, _⟩ | ⟨_, h1⟩ | ⟨_, h1⟩
    · exact absurd h1 h46
    · omega
    · omega
  · simp
theorem take_sum {s : ByteArray} (hs : isBoard s = true) {a : Int} (ha : a = 0 ∨ a = 1) (n : Nat) (hn : n ≤ 90) : (gathM s a (fun c => c != 46) n).length ≤ ((List.range n).filter (fun i => decide (sideN (cel s i) = a))).length * (piecesS s (1 - a)).length := by
  induction n with
  | zero => simp [gathM]
  | succ n ih =>
    have h1 := ih (by omega)
    have h2 := take_from hs ha n (by omega)
    rw [gathM_succ, List.length_append, List.range_succ, List.filter_append, List.length_append]
    by_cases hsn : sideN (cel s n) = a
    · rw [if_pos hsn] at h2
      have e : ([n].filter (fun i => decide (sideN (cel s i) = a))).length = 1 := by simp [hsn]
      rw [e, Nat.add_mul, Nat.one_mul]
      omega
    · rw [if_neg hsn] at h2
      have e : ([n].filter (fun i => decide (sideN (cel s i) = a))).length = 0 := by simp [hsn]
      rw [e, Nat.add_zero]
      omega
theorem prod_20 : ∀ x : Fin 10, ∀ y : Fin 10, x.val + y.val ≤ 9 → x.val * y.val ≤ 20 := by decide
/-- At most 9 pieces: at most 20 captures. -/
theorem take_20 {p : Pos} (hw : wellS p = 0) (hn : nP p.cells ≤ 9) : (takeL p.cells (legalL p)).length ≤ 20 := by
  obtain ⟨hbd, hsd, _⟩ := argOk_yes (checkP_board (well_check hw))
  have h1 : (takeL p.cells (legalL p)).length ≤ (gathM p.cells p.side (fun c => c != 46) 90).length := by
    rw [legal_eq hw]
    unfold takeL legalR
    rw [List.filter_filter]
    have e : gathM p.cells p.side (fun c => c != 46) 90 = (gathM p.cells p.side (fun _ => true) 90).filter (fun m => cel p.cells m.2 != 46) := by
      unfold gathM
      rw [List.filter_flatMap]
      congr 1
      funext x
      unfold fromM
      split
      · rw [List.filter_map, List.filter_filter]
        congr 1
        refine List.filter_congr (fun b _ => ?_)
        simp
      · rfl
    rw [e]
    exact filter_imp_len _ _ _ (fun m _ h => by simp only [Bool.and_eq_true] at h; exact h.1)
  have h2 := take_sum hbd hsd 90 (Nat.le_refl _)
  have h3 : ((List.range 90).filter (fun i => decide (sideN (cel p.cells i) = p.side))).length = (piecesS p.cells p.side).length := by
    unfold piecesS
    rw [if_pos hbd]
    congr 1
    refine List.filter_congr (fun i _ => ?_)
    rcases hsd with h | h <;> rw [h] <;> simp
  rw [h3] at h2
  have h4 : (piecesS p.cells p.side).length + (piecesS p.cells (1 - p.side)).length ≤ 9 := by
    unfold nP at hn
    rcases hsd with h | h
    · rw [h, show ((1 : Int) - 0) = 1 from rfl]; exact hn
    · rw [h, show ((1 : Int) - 1) = 0 from rfl]; omega
  have h5 := prod_20 ⟨(piecesS p.cells p.side).length, by omega⟩ ⟨(piecesS p.cells (1 - p.side)).length, by omega⟩ h4
  simp only at h5
  omega
end Go.Proofs.YtdkghbbjillboaaGreatDoor.K

/- quiet.captures. -/
namespace Go.Proofs.YtdkghbbjillboaaGreatDoor.K
open Go.RowKit Go.Lib Go.Proofs.YtdkghbbjillboaaGreatDoorW.PrintWords Go.Proofs.YtdkghbbjillboaaGreatDoorW.PrintLast Go.Proofs.YtdkghbbjillboaaGreatDoorW.PrintMore Go.Proofs.YtdkghbbjillboaaGreatDoor.Sp
set_option linter.unusedVariables false
set_option linter.unusedSimpArgs false
set_option maxRecDepth 100000 in
set_option maxHeartbeats 4000000 in
theorem stable_M (g : Nat) (lb : Array Value) (cf : Mv → Mv → Int) (eg : ∀ args w, (callFunc g args).run Tryz.prog w = .ok (.enter g args) w) (base b cap : Nat) (xs : List Mv) (B0 : Nat) (w : World)
    (hc : CmpM g lb cf xs b w) (hP : PermAt base b cap xs B0 w w xs) (hlen : xs.length ≤ 20) :
    Calls Tryz.prog 108 #[.slice (some ⟨b, 0, none⟩) xs.length cap, .int .i64 (xs.length : Int), .func (.func g) #[] lb] w fun e w' => e = .returned (.tuple #[]) ∧ ∃ cur, PermAt base b cap xs B0 w w' cur := by
  have HP := Aside0.mk hP
  have HI1 := Aside0.mk (fun (W : World) (cur : List Mv) (h : PermAt base b cap xs B0 w W cur) (hn : 20 ≤ xs.length) => (ins_M g lb cf eg base b cap 0 20 xs B0 w W cur hc h hn (by omega) (by decide) : Calls Tryz.prog 121 #[.slice (some ⟨b, 0, none⟩) xs.length cap, .int .i64 0, .int .i64 20, .func (.func g) #[] lb] W fun e w' => e = .returned (.tuple #[]) ∧ ∃ cur, PermAt base b cap xs B0 w w' cur))
  have HI2 := Aside0.mk (fun (W : World) (cur : List Mv) (h : PermAt base b cap xs B0 w W cur) => (ins_M g lb cf eg base b cap 0 xs.length xs B0 w W cur hc h (Nat.le_refl _) (by omega) (by decide) : Calls Tryz.prog 121 #[.slice (some ⟨b, 0, none⟩) xs.length cap, .int .i64 0, .int .i64 (xs.length : Int), .func (.func g) #[] lb] W fun e w' => e = .returned (.tuple #[]) ∧ ∃ cur, PermAt base b cap xs B0 w w' cur))
  have HI3 := Aside0.mk (fun (W : World) (cur : List Mv) (h : PermAt base b cap xs B0 w W cur) => (ins_M g lb cf eg base b cap 20 xs.length xs B0 w W cur hc h (Nat.le_refl _) (by omega) (by decide) : Calls Tryz.prog 121 #[.slice (some ⟨b, 0, none⟩) xs.length cap, .int .i64 20, .int .i64 (xs.length : Int), .func (.func g) #[] lb] W fun e w' => e = .returned (.tuple #[]) ∧ ∃ cur, PermAt base b cap xs B0 w w' cur))
  have hlz : (xs.length : Int) ≤ 20 := by omega
  have hl0 : (0 : Int) ≤ (xs.length : Int) := by omega
  have hlt : ¬ (20 : Int) < (xs.length : Int) := by omega
  have hl4 : ¬ (40 : Int) ≤ (xs.length : Int) := by omega
  clear hc hP eg
  go_enter Tryz.func108, Tryz.ntmps108
  go_wp2_with fail
  go_loopg [7, 8] 1 (fun gg s7 s8 wr => ∃ cur : List Mv, Aside0 (PermAt base b cap xs B0 w wr cur) ∧ ((s7 = .int .i64 0 ∧ s8 = .int .i64 20 ∧ gg = 1) ∨ (s7 = .int .i64 20 ∧ s8 = .int .i64 40)))
  case atStart => exact ⟨xs, HP, .inl ⟨rfl, rfl, rfl⟩⟩
  case round =>
    clear HP
    obtain ⟨cur, HP, ⟨rfl, rfl, hgg⟩ | ⟨rfl, rfl⟩⟩ := hrel
    · by_cases h20 : (20 : Int) ≤ (xs.length : Int)
      · go_wp2_with fail
        refine (HI1.out _ cur HP.out (by omega)).mono ?_
        rintro e w1 ⟨rfl, cur1, h1⟩
        have HP1 := Aside0.mk h1
        clear h1 HP
        go_wp2_with fail
        go_roundg 0
        case measure => omega
        case rel => exact ⟨cur1, HP1, .inr ⟨rfl, rfl⟩⟩
      · go_wp2_with fail
        refine (HI2.out _ cur HP.out).mono ?_
        rintro e w1 ⟨rfl, cur1, h1⟩
        have HP1 := Aside0.mk h1
        clear h1 HP
        go_wp2_with fail
        refine wp_loop_rounds 1 ?_
        rw [rounds_succ]
        go_wp2_with fail
        go_end0
        exact ⟨rfl, cur1, HP1.out⟩
    · go_wp2_with fail
      refine (HI3.out _ cur HP.out).mono ?_
      rintro e w1 ⟨rfl, cur1, h1⟩
      have HP1 := Aside0.mk h1
      clear h1 HP
      go_wp2_with fail
      refine wp_loop_rounds 1 ?_
      rw [rounds_succ]
      go_wp2_with fail
      go_end0
      exact ⟨rfl, cur1, HP1.out⟩
set_option maxRecDepth 100000 in
set_option maxHeartbeats 4000000 in
theorem sortS_M (g : Nat) (lb : Array Value) (cf : Mv → Mv → Int) (eg : ∀ args w, (callFunc g args).run Tryz.prog w = .ok (.enter g args) w) (base b cap : Nat) (xs : List Mv) (B0 : Nat) (w : World)
    (hc : CmpM g lb cf xs b w) (hP : PermAt base b cap xs B0 w w xs) (hlen : xs.length ≤ 20) :
    Calls Tryz.prog 70 #[.slice (some ⟨b, 0, none⟩) xs.length cap, .func (.func g) #[] lb] w fun e w' => e = .returned (.tuple #[]) ∧ ∃ cur, PermAt base b cap xs B0 w w' cur := by
  have HS := Aside0.mk (stable_M g lb cf eg base b cap xs B0 w hc hP hlen)
  clear hc hP hlen eg
  go_enter Tryz.func70, Tryz.ntmps70
  go_wp2_with fail
  refine HS.out.mono ?_
  rintro e w' ⟨rfl, cur, h⟩
  have HR := Aside0.mk h
  clear h
  go_wp2_with fail
  go_end0
  exact ⟨rfl, cur, HR.out⟩
/-- The captures of some moves, in some order. -/
def CapsIs (base b cap : Nat) (s : ByteArray) (l : List Mv) (W : World) (e : Ending) (w' : World) : Prop :=
  ∃ ys : List Mv, e = .returned (.slice (some ⟨b, 0, none⟩) ys.length cap) ∧ ys.Perm (takeL s l) ∧ w'.ownsRow base 54 2 (.slice (some ⟨b, 0, none⟩) ys.length cap) ys.length (flatM ys) ∧ Below base W w'
set_option maxRecDepth 100000 in
set_option maxHeartbeats 4000000 in
theorem caps_c (p : Pos) (hbd : isBoard p.cells = true) (base b cap : Nat) (l : List Mv) (W : World) (ho : W.ownsRow base 54 2 (.slice (some ⟨b, 0, none⟩) l.length cap) l.length (flatM l)) (hb0 : base ≤ b) (hbW : b < W.heap.size)
    (hl : ∀ m ∈ l, m.2 < 90) (hcap : l.length ≤ cap) (h20 : (takeL p.cells l).length ≤ 20) (hlen : l.length ≤ 1000000) : Calls Tryz.prog 39 #[posV p, .slice (some ⟨b, 0, none⟩) l.length cap] W (CapsIs base b cap p.cells l W) := by
  have HB0 := Aside0.mk (BoxP.new W p)
  have HL0 := Aside0.mk (below_alloc (Below.refl W.heap.size W) (.cells #[.string p.cells, .int .i64 p.side, .int .i64 p.clock, .int .i64 p.full] 23))
  have HO0 := Aside0.mk (pw_own_below ho HL0.out)
  have HNE := Aside0.mk (show W.heap.size ≠ b by omega)
  have HZ := Aside0.mk (show base ≤ (W.alloc (.cells #[.string p.cells, .int .i64 p.side, .int .i64 p.clock, .int .i64 p.full] 23)).heap.size by simp; omega)
  have HZ0 := Aside0.mk (show base ≤ W.heap.size by omega)
  have HD := Aside0.mk (fun (W1 : World) (hx : BoxP W1 W.heap.size p) (hz : base ≤ W1.heap.size) (ho : W1.ownsRow base 54 2 (.slice (some ⟨b, 0, none⟩) l.length cap) l.length (flatM l)) =>
    delM_calls 69 #[.pointer (some ⟨W.heap.size, 0, none⟩)] (fun m => cel p.cells m.2 == 46) (enters_of Tryz.func69 (by kernel_rfl) rfl) base b cap l base W1 ho (fun W2 m hm hk => qcap1_c p W.heap.size m hbd (hl m hm) W2 (keep_box hk HNE.out hx)) hlen hcap hb0 hz)
  have HS := Aside0.mk (fun (W1 : World) (hx : BoxP W1 W.heap.size p) (hz : base ≤ W1.heap.size) (ho : W1.ownsRow base 54 2 (.slice (some ⟨b, 0, none⟩) (takeL p.cells l).length cap) (takeL p.cells l).length (flatM (takeL p.cells l))) =>
    sortS_M 71 #[.pointer (some ⟨W.heap.size, 0, none⟩)] (capI p) (enters_of Tryz.func71 (by kernel_rfl) rfl) base b cap (takeL p.cells l) base W1 (fun W2 x y hx2 hy2 hk => qcap2_c p W.heap.size x y hbd (hl x (List.mem_filter.1 hx2).1) (hl y (List.mem_filter.1 hy2).1) W2 (keep_box hk HNE.out hx)) ⟨List.Perm.refl _, ho, KeepBut.refl _ _ _, Below.refl _ _, hb0, hz⟩ h20)
  have hfl : (l.filter fun x => !(cel p.cells x.2 == 46)) = takeL p.cells l := rfl
  rw [hfl] at HD
  have hu := Tryz.underlying23
  have HEND := Aside0.mk (fun (w3 : World) (ys : List Mv) (h : ys.Perm (takeL p.cells l)) (ho : w3.ownsRow base 54 2 (.slice (some ⟨b, 0, none⟩) ys.length cap) ys.length (flatM ys)) (hb : Below base W w3) => show CapsIs base b cap p.cells l W (.returned (.slice (some ⟨b, 0, none⟩) (takeL p.cells l).length cap)) w3 from ⟨ys, by rw [h.length_eq], h, ho, hb⟩)
  clear ho hb0 hbW hl hcap h20 hlen hfl hbd
  generalize takeL p.cells l = tl at *
  go_enter Tryz.func39, Tryz.ntmps39
  go_upto_region 1 with fail
  generalize W.alloc (.cells #[.string p.cells, .int .i64 p.side, .int .i64 p.clock, .int .i64 p.full] 23) = W1 at *
  go_wp2_with fail
  refine (HD.out _ HB0.out HZ.out HO0.out).mono ?_
  rintro e w2 ⟨rfl, ho, hk, hb⟩
  have H2 := Aside0.mk (And.intro (And.intro (keep_box hk HNE.out HB0.out) (Nat.le_trans HZ.out hb.size)) (And.intro ho ((HL0.out.mono HZ0.out).trans hb)))
  clear ho hk hb
  go_wp2_with fail
  refine (HS.out _ H2.out.1.1 H2.out.1.2 H2.out.2.1).mono ?_
  rintro e w3 ⟨rfl, cur, h⟩
  have H3 := Aside0.mk h
  clear h
  go_wp2_with fail
  go_ret
  exact HEND.out _ cur H3.out.pm H3.out.ownc (H2.out.2.2.trans H3.out.bel)
end Go.Proofs.YtdkghbbjillboaaGreatDoor.K

/- Plain law of wxf: a move's text. -/
namespace Go.Proofs.YtdkghbbjillboaaGreatDoor.K
open Go.RowKit Go.Lib Go.Proofs.YtdkghbbjillboaaGreatDoorW.PrintWords Go.Proofs.YtdkghbbjillboaaGreatDoor.Sp
set_option linter.unusedVariables false
set_option linter.unusedSimpArgs false
/-- A file's number, seen from a side. -/
def fileA (n : Nat) (a : Int) : Nat := if a = 1 then n % 9 + 1 else 9 - n % 9
/-- How many ranks ahead a move goes. -/
def aheadA (m : Mv) (a : Int) : Int := if a = 1 then ((m.1 / 9 : Nat) : Int) - ((m.2 / 9 : Nat) : Int) else ((m.2 / 9 : Nat) : Int) - ((m.1 / 9 : Nat) : Int)
/-- The squares of a piece on a file. -/
def likeN (s : ByteArray) (c f : Nat) : List Nat := (List.range 90).filter (fun i => cel s i == c && i % 9 == f)
/-- .. from the front on. -/
def likeA (s : ByteArray) (c f : Nat) (a : Int) : List Nat := if a = 1 then likeN s c f else (likeN s c f).reverse
/-- How many files have two or more of a piece. -/
def tandemN (s : ByteArray) (c : Nat) : Nat := ((List.range 9).filter (fun f => decide (2 ≤ (likeN s c f).length))).length
def placeA (s : ByteArray) (n : Nat) (a : Int) : Nat := (likeA s (cel s n) (n % 9) a).idxOf n
def manyA (s : ByteArray) (n : Nat) : Nat := (likeN s (cel s n) (n % 9)).length
def fourK (k : Nat) : Bool := k == 78 || k == 82 || k == 67 || k == 80
/-- The two bytes that tell the piece on a square. -/
def pieceT (s : ByteArray) (n : Nat) (a : Int) : List Nat :=
  if fourK (kindN (cel s n)) = true ∧ 2 ≤ manyA s n then
    (if manyA s n = 2 ∧ tandemN s (cel s n) = 1 then [if placeA s n a = 0 then 43 else 45, kindN (cel s n)] else [49 + placeA s n a, 48 + fileA n a])
  else [kindN (cel s n), 48 + fileA n a]
/-- The two that tell where it goes. -/
def wayT (s : ByteArray) (m : Mv) (a : Int) : List Nat :=
  if aheadA m a = 0 then [61, 48 + fileA m.2 a]
  else [if 0 < aheadA m a then 43 else 45, if kindN (cel s m.1) = 75 ∨ kindN (cel s m.1) = 82 ∨ kindN (cel s m.1) = 67 ∨ kindN (cel s m.1) = 80 then 48 + (aheadA m a).natAbs else 48 + fileA m.2 a]
def textT (s : ByteArray) (m : Mv) (a : Int) : List Nat := pieceT s m.1 a ++ wayT s m a
theorem piece_len (s : ByteArray) (n : Nat) (a : Int) : (pieceT s n a).length = 2 := by
  unfold pieceT
  repeat' split
  all_goals rfl
theorem way_len (s : ByteArray) (m : Mv) (a : Int) : (wayT s m a).length = 2 := by
  unfold wayT
  repeat' split
  all_goals rfl
theorem text_len (s : ByteArray) (m : Mv) (a : Int) : (textT s m a).length = 4 := by unfold textT; rw [List.length_append, piece_len, way_len]
theorem like_mem {s : ByteArray} {c f n : Nat} : n ∈ likeN s c f ↔ n < 90 ∧ cel s n = c ∧ n % 9 = f := by
  unfold likeN
  rw [List.mem_filter, List.mem_range]
  simp
theorem likeA_mem {s : ByteArray} {c f n : Nat} {a : Int} : n ∈ likeA s c f a ↔ n < 90 ∧ cel s n = c ∧ n % 9 = f := by
  unfold likeA
  split
  · exact like_mem
  · rw [List.mem_reverse]; exact like_mem
theorem likeA_len (s : ByteArray) (c f : Nat) (a : Int) : (likeA s c f a).length = (likeN s c f).length := by
  unfold likeA
  split
  · rfl
  · rw [List.length_reverse]
/-- What a letter is, by its kind and its side. -/
theorem letter_one : ∀ x ∈ letters, ∀ y ∈ letters, sideN x = sideN y → kindN x = kindN y → 0 ≤ sideN x → x = y := by decide
theorem kind_big : ∀ x ∈ letters, 0 ≤ sideN x → 65 ≤ kindN x := by decide
theorem place_inj {l : List Nat} {n k : Nat} (hn : n ∈ l) (hk : k ∈ l) (h : l.idxOf n = l.idxOf k) : n = k := by
  have h1 := List.getElem_idxOf (List.idxOf_lt_length_of_mem hn)
  have h2 := List.getElem_idxOf (List.idxOf_lt_length_of_mem hk)
  rw [← h1, ← h2]
  simp only [h]
theorem like_le (s : ByteArray) (c f : Nat) : (likeN s c f).length ≤ cntX s 90 c := by
  unfold likeN cntX
  rw [← List.countP_eq_length_filter]
  exact List.countP_mono_left (fun x _ h => by simp only [Bool.and_eq_true] at h; exact h.1)
/-- Two files' pieces are together no more than all. -/
theorem like_two (s : ByteArray) (c f g : Nat) (h : f ≠ g) : (likeN s c f).length + (likeN s c g).length ≤ cntX s 90 c := by
  unfold likeN cntX
  rw [← List.countP_eq_length_filter, ← List.countP_eq_length_filter]
  have key : ∀ l : List Nat, l.countP (fun i => cel s i == c && i % 9 == f) + l.countP (fun i => cel s i == c && i % 9 == g) ≤ l.countP (fun i => cel s i == c) := by
    intro l
    induction l with
    | nil => simp
    | cons x r ih =>
      simp only [List.countP_cons]
      cases hx : (cel s x == c)
      · simp only [Bool.false_and, Bool.false_eq_true, if_false]; omega
      · simp only [Bool.true_and]
        by_cases h1 : x % 9 = f
        · have h2 : ¬ (x % 9 = g) := fun h2 => h (h1.symm.trans h2)
          simp [h1, h]; omega
        · by_cases h2 : x % 9 = g
          · simp [h2, Ne.symm h]; omega
          · simp [h1, h2]; omega
  exact key _
/-- One tandem: the file is told. -/
theorem tandem_one {s : ByteArray} {c f g : Nat} (h : tandemN s c = 1) (hf : f < 9) (hg : g < 9) (h1 : 2 ≤ (likeN s c f).length) (h2 : 2 ≤ (likeN s c g).length) : f = g := by
  unfold tandemN at h
  obtain ⟨x, hx⟩ := List.length_eq_one_iff.1 h
  have hfm : f ∈ (List.range 9).filter (fun f => decide (2 ≤ (likeN s c f).length)) := List.mem_filter.2 ⟨List.mem_range.2 hf, by simpa using h1⟩
  have hgm : g ∈ (List.range 9).filter (fun f => decide (2 ≤ (likeN s c f).length)) := List.mem_filter.2 ⟨List.mem_range.2 hg, by simpa using h2⟩
  rw [hx] at hfm hgm
  rw [List.mem_singleton.1 hfm, List.mem_singleton.1 hgm]
/-- Two pieces at most: no more than one tandem. -/
theorem tandem_few {s : ByteArray} {c f : Nat} (hc : cntX s 90 c ≤ 2) (hf : f < 9) (h : 2 ≤ (likeN s c f).length) : tandemN s c = 1 := by
  unfold tandemN
  have key : ∀ g, g < 9 → (decide (2 ≤ (likeN s c g).length)) = (g == f) := by
    intro g hg
    by_cases he : g = f
    · subst he; simpa using h
    · have := like_two s c f g (Ne.symm he)
      have h3 : ¬ 2 ≤ (likeN s c g).length := by omega
      rw [decide_eq_false h3]
      exact (beq_eq_false_iff_ne.2 he).symm
  rw [List.filter_congr (q := fun g => g == f) (fun g hg => key g (List.mem_range.1 hg))]
  have : ∀ f, f < 9 → ((List.range 9).filter (fun g => g == f)).length = 1 := by decide
  exact this f hf
end Go.Proofs.YtdkghbbjillboaaGreatDoor.K

/- Plain law of wxf: no two moves that may be made have one text. -/
namespace Go.Proofs.YtdkghbbjillboaaGreatDoor.K
open Go.RowKit Go.Lib Go.Proofs.YtdkghbbjillboaaGreatDoorW.PrintWords Go.Proofs.YtdkghbbjillboaaGreatDoor.Sp
set_option linter.unusedVariables false
set_option linter.unusedSimpArgs false
theorem fileA_inj {n k : Nat} {a : Int} (h : fileA n a = fileA k a) : n % 9 = k % 9 := by
  unfold fileA at h
  split at h <;> omega
theorem one_same {l : List Nat} (h : l.length ≤ 1) {n k : Nat} (hn : n ∈ l) (hk : k ∈ l) : n = k := by
  match l, h with
  | [], _ => simp at hn
  | [x], _ => rw [List.mem_singleton.1 hn, List.mem_singleton.1 hk]
/-- What is known of a board's own pieces. -/
structure OwnP (s : ByteArray) (a : Int) : Prop where
  bd : isBoard s = true
  sd : a = 0 ∨ a = 1
  cnt : ∀ x ∈ pieces14, cntX s 90 x ≤ mostN x
  may : ∀ n, n < 90 → cel s n = 46 ∨ mayN (cel s n) n = true
theorem ownP_of {p : Pos} (hck : checkP p = 0) : OwnP p.cells p.side := by
  obtain ⟨h1, h2, h3⟩ := checkP_parts hck
  obtain ⟨hbd, hsd, _⟩ := argOk_yes h1
  refine ⟨hbd, hsd, fun x hx => ?_, h3⟩
  have := h2 x hx
  unfold badX at this
  simp only [Bool.or_eq_false_iff, decide_eq_false_iff_not] at this
  omega
theorem piece14_of : ∀ x ∈ letters, 0 ≤ sideN x → x ∈ pieces14 := by decide
theorem mostN_kind {x : Nat} (h : 0 < kindN x) : mostN x ≤ 5 ∧ (kindN x ≠ 80 → mostN x ≤ 2) ∧ (kindN x = 75 → mostN x ≤ 1) := by
  unfold mostN
  repeat' split
  all_goals omega
theorem kinds_of : ∀ x ∈ letters, 0 ≤ sideN x → kindN x = 75 ∨ kindN x = 65 ∨ kindN x = 66 ∨ kindN x = 78 ∨ kindN x = 82 ∨ kindN x = 67 ∨ kindN x = 80 := by decide
theorem piece_apart {s : ByteArray} {a : Int} (H : OwnP s a) {n k : Nat} (hn : n < 90) (hk : k < 90) (on : sideN (cel s n) = a) (ok : sideN (cel s k) = a) (h : pieceT s n a = pieceT s k a) :
    cel s n = cel s k ∧ n % 9 = k % 9 ∧ (n = k ∨ kindN (cel s n) = 65 ∨ kindN (cel s n) = 66) := by
  have hsd := H.sd
  have ln := board_cell H.bd hn
  have lk := board_cell H.bd hk
  have bn := kind_big _ ln (by omega)
  have bk := kind_big _ lk (by omega)
  have kn := kinds_of _ ln (by omega)
  have cn := H.cnt _ (piece14_of _ ln (by omega))
  have ck := H.cnt _ (piece14_of _ lk (by omega))
  have mn := mostN_kind (x := cel s n) (by omega)
  have mk := mostN_kind (x := cel s k) (by omega)
  have lln := like_le s (cel s n) (n % 9)
  have llk := like_le s (cel s k) (k % 9)
  have mem_n : n ∈ likeA s (cel s n) (n % 9) a := likeA_mem.2 ⟨hn, rfl, rfl⟩
  have mem_k : k ∈ likeA s (cel s k) (k % 9) a := likeA_mem.2 ⟨hk, rfl, rfl⟩
  have pn : placeA s n a < manyA s n := by
    have := List.idxOf_lt_length_of_mem mem_n
    rw [likeA_len] at this
    exact this
  have pk : placeA s k a < manyA s k := by
    have := List.idxOf_lt_length_of_mem mem_k
    rw [likeA_len] at this
    exact this
  have en : manyA s n = (likeN s (cel s n) (n % 9)).length := rfl
  have ek : manyA s k = (likeN s (cel s k) (k % 9)).length := rfl
  have hc : kindN (cel s n) = kindN (cel s k) → cel s n = cel s k := fun h => letter_one _ ln _ lk (by omega) h (by omega)
  -- the same squares, if place and file are the same
  have hpl : cel s n = cel s k → n % 9 = k % 9 → placeA s n a = placeA s k a → n = k := by
    intro h1 h2 h3
    unfold placeA at h3
    rw [h1, h2] at h3
    rw [h1, h2] at mem_n
    exact place_inj mem_n mem_k h3
  unfold pieceT at h
  by_cases hA : fourK (kindN (cel s n)) = true ∧ 2 ≤ manyA s n
  · rw [if_pos hA] at h
    by_cases hA' : fourK (kindN (cel s k)) = true ∧ 2 ≤ manyA s k
    · rw [if_pos hA'] at h
      by_cases hB : manyA s n = 2 ∧ tandemN s (cel s n) = 1
      · rw [if_pos hB] at h
        by_cases hB' : manyA s k = 2 ∧ tandemN s (cel s k) = 1
        · rw [if_pos hB'] at h
          simp only [List.cons.injEq, and_true] at h
          have e1 := hc h.2
          have e2 : n % 9 = k % 9 := tandem_one hB.2 (by omega) (by omega) (by omega) (by rw [e1]; omega)
          refine ⟨e1, e2, .inl (hpl e1 e2 ?_)⟩
          have h1 := h.1
          by_cases z1 : placeA s n a = 0 <;> by_cases z2 : placeA s k a = 0
          · omega
          · rw [if_pos z1, if_neg z2] at h1; omega
          · rw [if_neg z1, if_pos z2] at h1; omega
          · omega
        · rw [if_neg hB'] at h
          simp only [List.cons.injEq, and_true] at h
          have h1 := h.1
          split at h1 <;> omega
      · rw [if_neg hB] at h
        by_cases hB' : manyA s k = 2 ∧ tandemN s (cel s k) = 1
        · rw [if_pos hB'] at h
          simp only [List.cons.injEq, and_true] at h
          have h1 := h.1
          split at h1 <;> omega
        · rw [if_neg hB'] at h
          simp only [List.cons.injEq, and_true] at h
          have e2 := fileA_inj (a := a) (n := n) (k := k) (by omega)
          have k1 : kindN (cel s n) = 80 := by
            by_cases h80 : kindN (cel s n) = 80
            · exact h80
            · exact absurd ⟨by have := mn.2.1 h80; omega, tandem_few (f := n % 9) (by have := mn.2.1 h80; omega) (by omega) (by omega)⟩ hB
          have k2 : kindN (cel s k) = 80 := by
            by_cases h80 : kindN (cel s k) = 80
            · exact h80
            · exact absurd ⟨by have := mk.2.1 h80; omega, tandem_few (f := k % 9) (by have := mk.2.1 h80; omega) (by omega) (by omega)⟩ hB'
          have e1 := hc (by omega)
          exact ⟨e1, e2, .inl (hpl e1 e2 (by omega))⟩
    · rw [if_neg hA'] at h
      exfalso
      by_cases hB : manyA s n = 2 ∧ tandemN s (cel s n) = 1
      · rw [if_pos hB] at h
        simp only [List.cons.injEq, and_true] at h
        have h1 := h.1
        split at h1 <;> omega
      · rw [if_neg hB] at h
        simp only [List.cons.injEq, and_true] at h
        omega
  · rw [if_neg hA] at h
    by_cases hA' : fourK (kindN (cel s k)) = true ∧ 2 ≤ manyA s k
    · rw [if_pos hA'] at h
      exfalso
      by_cases hB : manyA s k = 2 ∧ tandemN s (cel s k) = 1
      · rw [if_pos hB] at h
        simp only [List.cons.injEq, and_true] at h
        have h1 := h.1
        split at h1 <;> omega
      · rw [if_neg hB] at h
        simp only [List.cons.injEq, and_true] at h
        omega
    · rw [if_neg hA'] at h
      simp only [List.cons.injEq, and_true] at h
      have e1 := hc h.1
      have e2 := fileA_inj (a := a) (n := n) (k := k) (by omega)
      refine ⟨e1, e2, ?_⟩
      rcases kn with h75 | h65 | h66 | h4
      · have hl : (likeN s (cel s n) (n % 9)).length ≤ 1 := by have := mn.2.2 h75; omega
        exact .inl (one_same hl (like_mem.2 ⟨hn, rfl, rfl⟩) (like_mem.2 ⟨hk, e1.symm, e2.symm⟩))
      · exact .inr (.inl h65)
      · exact .inr (.inr h66)
      · have h4' : fourK (kindN (cel s n)) = true := by
          unfold fourK
          rcases h4 with h | h | h | h <;> rw [h] <;> rfl
        have hl : (likeN s (cel s n) (n % 9)).length ≤ 1 := by
          have : ¬ 2 ≤ manyA s n := fun h => hA ⟨h4', h⟩
          omega
        exact .inl (one_same hl (like_mem.2 ⟨hn, rfl, rfl⟩) (like_mem.2 ⟨hk, e1.symm, e2.symm⟩))
/-- The squares on which a piece may stand. -/
def mayL (x : Nat) : List Nat := (List.range 90).filter (mayN x)
theorem mayL_mem {x n : Nat} (hn : n < 90) (h : mayN x n = true) : n ∈ mayL x := List.mem_filter.2 ⟨List.mem_range.2 hn, h⟩
/-- Advisors, elephants: two on one file go apart. -/
theorem adv_apart : ∀ x ∈ [65, 97], ∀ n ∈ mayL x, ∀ k ∈ mayL x, ∀ t ∈ mayL x, ∀ u ∈ mayL x, (n % 9 == k % 9 && t % 9 == u % 9 && away (n % 9) (t % 9) == 1 && away (n / 9) (t / 9) == 1 && away (k % 9) (u % 9) == 1 && away (k / 9) (u / 9) == 1 && (decide (n / 9 < t / 9) == decide (k / 9 < u / 9))) = true → n = k ∧ t = u := by decide +kernel
theorem ele_apart : ∀ x ∈ [66, 98], ∀ n ∈ mayL x, ∀ k ∈ mayL x, ∀ t ∈ mayL x, ∀ u ∈ mayL x, (n % 9 == k % 9 && t % 9 == u % 9 && away (n % 9) (t % 9) == 2 && away (n / 9) (t / 9) == 2 && away (k % 9) (u % 9) == 2 && away (k / 9) (u / 9) == 2 && (decide (n / 9 < t / 9) == decide (k / 9 < u / 9))) = true → n = k ∧ t = u := by decide +kernel
theorem kind_65 : ∀ x ∈ letters, kindN x = 65 → x ∈ [65, 97] := by decide
theorem kind_66 : ∀ x ∈ letters, kindN x = 66 → x ∈ [66, 98] := by decide
/-- What the last two bytes tell. -/
theorem way_tells {s : ByteArray} {a : Int} {m u : Mv} (hk : kindN (cel s m.1) = kindN (cel s u.1)) (h : wayT s m a = wayT s u a) :
    (aheadA m a = 0 ↔ aheadA u a = 0) ∧ (0 < aheadA m a ↔ 0 < aheadA u a) ∧
    ((aheadA m a = 0 ∨ ¬ (kindN (cel s m.1) = 75 ∨ kindN (cel s m.1) = 82 ∨ kindN (cel s m.1) = 67 ∨ kindN (cel s m.1) = 80)) → m.2 % 9 = u.2 % 9) ∧
    ((kindN (cel s m.1) = 75 ∨ kindN (cel s m.1) = 82 ∨ kindN (cel s m.1) = 67 ∨ kindN (cel s m.1) = 80) → aheadA m a ≠ 0 → aheadA m a = aheadA u a) := by
  unfold wayT at h
  rw [← hk] at h
  by_cases h1 : aheadA m a = 0
  · rw [if_pos h1] at h
    by_cases h2 : aheadA u a = 0
    · rw [if_pos h2] at h
      simp only [List.cons.injEq, and_true] at h
      have := fileA_inj (n := m.2) (k := u.2) (a := a) (by omega)
      exact ⟨by omega, by omega, fun _ => this, fun _ h3 => absurd h1 h3⟩
    · rw [if_neg h2] at h
      simp only [List.cons.injEq, and_true] at h
      exfalso
      have h3 := h.1
      split at h3 <;> omega
  · rw [if_neg h1] at h
    by_cases h2 : aheadA u a = 0
    · rw [if_pos h2] at h
      simp only [List.cons.injEq, and_true] at h
      exfalso
      have h3 := h.1
      split at h3 <;> omega
    · rw [if_neg h2] at h
      simp only [List.cons.injEq, and_true] at h
      obtain ⟨h3, h4⟩ := h
      have hp : 0 < aheadA m a ↔ 0 < aheadA u a := by
        by_cases q1 : 0 < aheadA m a <;> by_cases q2 : 0 < aheadA u a
        · omega
        · rw [if_pos q1, if_neg q2] at h3; omega
        · rw [if_neg q1, if_pos q2] at h3; omega
        · omega
      by_cases h5 : kindN (cel s m.1) = 75 ∨ kindN (cel s m.1) = 82 ∨ kindN (cel s m.1) = 67 ∨ kindN (cel s m.1) = 80
      · rw [if_pos h5, if_pos h5] at h4
        exact ⟨by omega, hp, fun h6 => h6.elim (fun h7 => absurd h7 h1) (fun h7 => absurd h5 h7), fun _ _ => by omega⟩
      · rw [if_neg h5, if_neg h5] at h4
        have := fileA_inj (n := m.2) (k := u.2) (a := a) (by omega)
        exact ⟨by omega, hp, fun _ => this, fun h6 => absurd h6 h5⟩
theorem away_nat (a b : Nat) : away a b = (a - b) + (b - a) := by
  unfold away; split <;> omega
theorem betw_line {c : Nat → Nat} {a b : Nat} (h : 0 ≤ betwN c a b) : a / 9 = b / 9 ∨ a % 9 = b % 9 := by
  unfold betwN at h
  split at h
  · omega
  · split at h
    · assumption
    · omega
theorem king_col {n t : Nat} (h : away (n % 9) (t % 9) + away (n / 9) (t / 9) = 1) (hr : t / 9 ≠ n / 9) : t % 9 = n % 9 := by
  rw [away_nat, away_nat] at h; omega
theorem line_col {c : Nat → Nat} {n t : Nat} (h : 0 ≤ betwN c n t) (hr : t / 9 ≠ n / 9) : t % 9 = n % 9 := by
  rcases betw_line h with h | h
  · exact absurd h.symm hr
  · exact h.symm
theorem pawn_col {g : Int} {n t : Nat} (h : pawnN g n t = true) (hr : t / 9 ≠ n / 9) : t % 9 = n % 9 := by
  unfold pawnN at h
  simp only [Bool.or_eq_true, Bool.and_eq_true, beq_iff_eq] at h
  rcases h with h | h
  · split at h
    · have := beq_iff_eq.1 h; omega
    · have := beq_iff_eq.1 h; omega
  · exact absurd h.1.2.symm hr
theorem horse_row {n t v : Nat} (h1 : (away (n % 9) (t % 9) = 1 ∧ away (n / 9) (t / 9) = 2) ∨ (away (n % 9) (t % 9) = 2 ∧ away (n / 9) (t / 9) = 1)) (h2 : (away (n % 9) (v % 9) = 1 ∧ away (n / 9) (v / 9) = 2) ∨ (away (n % 9) (v % 9) = 2 ∧ away (n / 9) (v / 9) = 1)) (hf : t % 9 = v % 9) (hs : n / 9 < t / 9 ↔ n / 9 < v / 9) : t / 9 = v / 9 := by
  rw [hf] at h1
  have e : away (n / 9) (t / 9) = away (n / 9) (v / 9) := by
    rcases h1 with h | h <;> rcases h2 with k | k
    · exact h.2.trans k.2.symm
    · have := h.1.symm.trans k.1; omega
    · have := h.1.symm.trans k.1; omega
    · exact h.2.trans k.2.symm
  rw [away_nat, away_nat] at e
  generalize t / 9 = x at *
  generalize v / 9 = y at *
  generalize n / 9 = z at *
  clear h1 h2
  omega
theorem ahead_row {n t : Nat} {a r : Int} (h : r = if a = 1 then ((n / 9 : Nat) : Int) - ((t / 9 : Nat) : Int) else ((t / 9 : Nat) : Int) - ((n / 9 : Nat) : Int)) : (r = 0 ↔ t / 9 = n / 9) ∧ (0 < r ↔ if a = 1 then t / 9 < n / 9 else n / 9 < t / 9) := by
  generalize t / 9 = x at *
  generalize n / 9 = z at *
  split at h <;> rename_i ha
  · rw [if_pos ha]; omega
  · rw [if_neg ha]; omega
theorem ahead_same {n t v : Nat} {a r : Int} (h : r = if a = 1 then ((n / 9 : Nat) : Int) - ((t / 9 : Nat) : Int) else ((t / 9 : Nat) : Int) - ((n / 9 : Nat) : Int)) (h2 : r = if a = 1 then ((n / 9 : Nat) : Int) - ((v / 9 : Nat) : Int) else ((v / 9 : Nat) : Int) - ((n / 9 : Nat) : Int)) : t / 9 = v / 9 := by
  generalize t / 9 = x at *
  generalize n / 9 = z at *
  generalize v / 9 = y at *
  split at h <;> rename_i ha
  · rw [if_pos ha] at h2; omega
  · rw [if_neg ha] at h2; omega
/-- The ways of those that go on by ranks. -/
theorem four_to {n t v : Nat} {a r1 r2 : Int} (h1 : r1 = if a = 1 then ((n / 9 : Nat) : Int) - ((t / 9 : Nat) : Int) else ((t / 9 : Nat) : Int) - ((n / 9 : Nat) : Int)) (h2 : r2 = if a = 1 then ((n / 9 : Nat) : Int) - ((v / 9 : Nat) : Int) else ((v / 9 : Nat) : Int) - ((n / 9 : Nat) : Int))
    (w1 : r1 = 0 ↔ r2 = 0) (w3 : r1 = 0 → t % 9 = v % 9) (w4 : r1 ≠ 0 → r1 = r2) (c1 : t / 9 ≠ n / 9 → t % 9 = n % 9) (c2 : v / 9 ≠ n / 9 → v % 9 = n % 9) : t / 9 = v / 9 ∧ t % 9 = v % 9 := by
  have f1 := (ahead_row h1).1
  have f2 := (ahead_row h2).1
  by_cases hz : r1 = 0
  · exact ⟨(f1.1 hz).trans (f2.1 (w1.1 hz)).symm, w3 hz⟩
  · have e := w4 hz
    refine ⟨ahead_same h1 (e.trans h2), (c1 (fun h => hz (f1.2 h))).trans (c2 (fun h => hz (w1.2 (f2.2 h)))).symm⟩
/-- **No two moves have one text.** -/
theorem text_apart {p : Pos} (hck : checkP p = 0) {m u : Mv} (hm : m ∈ gathP p (fun _ => true)) (hu : u ∈ gathP p (fun _ => true)) (h : textT p.cells m p.side = textT p.cells u p.side) : m = u := by
  have H := ownP_of hck
  obtain ⟨_, a1, a2, a3, a4, _⟩ := gath_mem hm
  obtain ⟨_, b1, b2, b3, b4, _⟩ := gath_mem hu
  generalize p.cells = s at *
  generalize p.side = a at *
  have hsd := H.sd
  unfold textT at h
  obtain ⟨hp, hw⟩ := List.append_inj h (by rw [piece_len, piece_len])
  obtain ⟨hc, hf, hor⟩ := piece_apart H a1 b1 a3 b3 hp
  obtain ⟨w1, w2, w3, w4⟩ := way_tells (by rw [hc]) hw
  have ln := board_cell H.bd a1
  have kn := kinds_of _ ln (by omega)
  unfold fastN at a4 b4
  simp only [Bool.and_eq_true, bne_iff_ne, ne_eq, decide_eq_true_eq] at a4 b4
  have ca := a4.2
  have cb := b4.2
  unfold canN at ca cb
  rw [← hc] at cb
  obtain ⟨n, t⟩ := m
  obtain ⟨k, v⟩ := u
  simp only at *
  have hr1 : aheadA (n, t) a = if a = 1 then ((n / 9 : Nat) : Int) - ((t / 9 : Nat) : Int) else ((t / 9 : Nat) : Int) - ((n / 9 : Nat) : Int) := rfl
  have hr2 : aheadA (k, v) a = if a = 1 then ((k / 9 : Nat) : Int) - ((v / 9 : Nat) : Int) else ((v / 9 : Nat) : Int) - ((k / 9 : Nat) : Int) := rfl
  generalize aheadA (n, t) a = r1 at *
  generalize aheadA (k, v) a = r2 at *
  have mayof : ∀ x, x < 90 → sideN (cel s x) = a → mayN (cel s x) x = true := by
    intro x hx hs
    rcases H.may x hx with h46 | hh
    · rw [h46, show sideN 46 = -1 from by decide] at hs; omega
    · exact hh
  have fin : n = k → t / 9 = v / 9 ∧ t % 9 = v % 9 → ((n, t) : Mv) = (k, v) := by
    intro e1 e2
    rw [e1, show t = v by omega]
  have sgn : r1 ≠ 0 → (n / 9 < t / 9 ↔ k / 9 < v / 9) := by
    intro hz
    have f1 := ahead_row hr1
    have f2 := ahead_row hr2
    have g1 : t / 9 ≠ n / 9 := fun h => hz (f1.1.2 h)
    have g2 : v / 9 ≠ k / 9 := fun h => hz (w1.2 (f2.1.2 h))
    rcases hsd with rfl | rfl
    · have q1 := f1.2; have q2 := f2.2
      rw [if_neg (by decide)] at q1 q2
      exact q1.symm.trans (w2.trans q2)
    · have q1 := f1.2; have q2 := f2.2
      rw [if_pos rfl] at q1 q2
      have q3 := q1.symm.trans (w2.trans q2)
      generalize t / 9 = x at *
      generalize n / 9 = z at *
      generalize v / 9 = y at *
      generalize k / 9 = zz at *
      omega
  have nz : t / 9 ≠ n / 9 → r1 ≠ 0 := fun h hz => h ((ahead_row hr1).1.1 hz)
  clear hp hw h a4 b4
  rcases kn with h75 | h65 | h66 | h78 | h82 | h67 | h80
  · have hnk : n = k := by rcases hor with h | h | h <;> omega
    rw [if_pos h75] at ca cb
    simp only [Bool.and_eq_true, beq_iff_eq] at ca cb
    subst hnk
    exact fin rfl (four_to hr1 hr2 w1 (fun h => w3 (.inl h)) (w4 (.inl h75)) (king_col ca.1) (king_col cb.1))
  · have h1 := kind_65 _ ln h65
    rw [if_neg (by omega), if_pos h65] at ca cb
    simp only [Bool.and_eq_true, beq_iff_eq] at ca cb
    have e3 : t % 9 = v % 9 := w3 (.inr (by omega))
    have g1 : t / 9 ≠ n / 9 := by have := ca.1.2; rw [away_nat] at this; omega
    obtain ⟨e1, e2⟩ := adv_apart _ h1 n (mayL_mem a1 (mayof n a1 a3)) k (mayL_mem b1 (by rw [hc]; exact mayof k b1 b3)) t (mayL_mem a2 ca.2) v (mayL_mem b2 cb.2) (by
      simp only [Bool.and_eq_true, beq_iff_eq]
      exact ⟨⟨⟨⟨⟨⟨hf, e3⟩, ca.1.1⟩, ca.1.2⟩, cb.1.1⟩, cb.1.2⟩, decide_eq_decide.2 (sgn (nz g1))⟩)
    rw [e1, e2]
  · have h1 := kind_66 _ ln h66
    rw [if_neg (by omega), if_neg (by omega), if_pos h66] at ca cb
    simp only [Bool.and_eq_true, beq_iff_eq] at ca cb
    have e3 : t % 9 = v % 9 := w3 (.inr (by omega))
    have g1 : t / 9 ≠ n / 9 := by have := ca.1.1.2; rw [away_nat] at this; omega
    obtain ⟨e1, e2⟩ := ele_apart _ h1 n (mayL_mem a1 (mayof n a1 a3)) k (mayL_mem b1 (by rw [hc]; exact mayof k b1 b3)) t (mayL_mem a2 ca.1.2) v (mayL_mem b2 cb.1.2) (by
      simp only [Bool.and_eq_true, beq_iff_eq]
      exact ⟨⟨⟨⟨⟨⟨hf, e3⟩, ca.1.1.1⟩, ca.1.1.2⟩, cb.1.1.1⟩, cb.1.1.2⟩, decide_eq_decide.2 (sgn (nz g1))⟩)
    rw [e1, e2]
  · have hnk : n = k := by rcases hor with h | h | h <;> omega
    rw [if_neg (by omega), if_neg (by omega), if_neg (by omega), if_pos h78] at ca cb
    unfold horseN at ca cb
    simp only [Bool.and_eq_true, Bool.or_eq_true, beq_iff_eq] at ca cb
    have e3 : t % 9 = v % 9 := w3 (.inr (by omega))
    have g1 : t / 9 ≠ n / 9 := by
      rcases ca.1 with h | h
      · have := h.2; rw [away_nat] at this; omega
      · have := h.2; rw [away_nat] at this; omega
    have sg := sgn (nz g1)
    subst hnk
    exact fin rfl ⟨horse_row ca.1 cb.1 e3 sg, e3⟩
  · have hnk : n = k := by rcases hor with h | h | h <;> omega
    rw [if_neg (by omega), if_neg (by omega), if_neg (by omega), if_neg (by omega), if_pos h82] at ca cb
    have ca := beq_iff_eq.1 ca
    have cb := beq_iff_eq.1 cb
    subst hnk
    exact fin rfl (four_to hr1 hr2 w1 (fun h => w3 (.inl h)) (w4 (.inr (.inl h82))) (line_col (c := cel s) (by omega)) (line_col (c := cel s) (by omega)))
  · have hnk : n = k := by rcases hor with h | h | h <;> omega
    rw [if_neg (by omega), if_neg (by omega), if_neg (by omega), if_neg (by omega), if_neg (by omega), if_pos h67] at ca cb
    simp only [Bool.and_eq_true, Bool.or_eq_true, beq_iff_eq] at ca cb
    subst hnk
    exact fin rfl (four_to hr1 hr2 w1 (fun h => w3 (.inl h)) (w4 (.inr (.inr (.inl h67)))) (line_col (c := cel s) (by rcases ca with h | h <;> omega)) (line_col (c := cel s) (by rcases cb with h | h <;> omega)))
  · have hnk : n = k := by rcases hor with h | h | h <;> omega
    rw [if_neg (by omega), if_neg (by omega), if_neg (by omega), if_neg (by omega), if_neg (by omega), if_neg (by omega)] at ca cb
    subst hnk
    exact fin rfl (four_to hr1 hr2 w1 (fun h => w3 (.inl h)) (w4 (.inr (.inr (.inr h80)))) (pawn_col ca) (pawn_col cb))
end Go.Proofs.YtdkghbbjillboaaGreatDoor.K

/- Plain law of wxf: the document's place and count; a text seen from the other side. -/
namespace Go.Proofs.YtdkghbbjillboaaGreatDoor.K
open Go.RowKit Go.Lib Go.Proofs.YtdkghbbjillboaaGreatDoorW.PrintWords Go.Proofs.YtdkghbbjillboaaGreatDoor.Sp
set_option linter.unusedVariables false
set_option linter.unusedSimpArgs false
/-- A file's squares. -/
def colL (f : Nat) : List Nat := (List.range 10).map (fun r => 9 * r + f)
theorem col_eq : ∀ f, f < 9 → (List.range 90).filter (fun i => i % 9 == f) = colL f := by decide
theorem like_col (s : ByteArray) (c : Nat) {f : Nat} (hf : f < 9) : likeN s c f = (colL f).filter (fun i => cel s i == c) := by
  rw [← col_eq f hf, List.filter_filter]
  unfold likeN
  exact List.filter_congr (fun i _ => rfl)
theorem many_col (s : ByteArray) (c : Nat) {f : Nat} (hf : f < 9) : (likeN s c f).length = (List.range 10).countP (fun r => cel s (9 * r + f) == c) := by
  rw [like_col s c hf, ← List.countP_eq_length_filter]
  unfold colL
  rw [List.countP_map]
  rfl
theorem col_sorted : ∀ f, f < 9 → (colL f).Pairwise (· < ·) := by decide
/-- In a sorted row a number's place is how many are less. -/
theorem idx_less : ∀ (l : List Nat), l.Pairwise (· < ·) → ∀ n, n ∈ l → l.idxOf n = l.countP (fun i => decide (i < n))
  | [], _, _, h => by simp at h
  | x :: r, hp, n, h => by
    obtain ⟨h1, h2⟩ := List.pairwise_cons.1 hp
    by_cases he : x = n
    · subst he
      rw [List.idxOf_cons_self, List.countP_cons]
      have : r.countP (fun i => decide (i < x)) = 0 := List.countP_eq_zero.2 (fun y hy => by have := h1 y hy; simp; omega)
      rw [this]
      simp
    · have hr : n ∈ r := by rcases List.mem_cons.1 h with h | h; exact absurd h.symm he; exact h
      rw [List.idxOf_cons, beq_eq_false_iff_ne.2 he, cond_false, idx_less r h2 n hr, List.countP_cons]
      have := h1 n hr
      rw [if_pos (by simpa using this)]
/-- .. in one turned round, how many are more. -/
theorem idx_more : ∀ (l : List Nat), l.Pairwise (· > ·) → ∀ n, n ∈ l → l.idxOf n = l.countP (fun i => decide (n < i))
  | [], _, _, h => by simp at h
  | x :: r, hp, n, h => by
    obtain ⟨h1, h2⟩ := List.pairwise_cons.1 hp
    by_cases he : x = n
    · subst he
      rw [List.idxOf_cons_self, List.countP_cons]
      have : r.countP (fun i => decide (x < i)) = 0 := List.countP_eq_zero.2 (fun y hy => by have := h1 y hy; simp; omega)
      rw [this]
      simp
    · have hr : n ∈ r := by rcases List.mem_cons.1 h with h | h; exact absurd h.symm he; exact h
      rw [List.idxOf_cons, beq_eq_false_iff_ne.2 he, cond_false, idx_more r h2 n hr, List.countP_cons]
      have := h1 n hr
      rw [if_pos (by simpa using this)]
/-- How many of the like are in front. -/
def frontR (s : ByteArray) (n : Nat) (a : Int) : Nat := (List.range 10).countP (fun r => cel s (9 * r + n % 9) == cel s n && (if a = 1 then decide (9 * r + n % 9 < n) else decide (n < 9 * r + n % 9)))
theorem place_front (s : ByteArray) {n : Nat} (hn : n < 90) (a : Int) : placeA s n a = frontR s n a := by
  have hf : n % 9 < 9 := Nat.mod_lt _ (by omega)
  have hm : n ∈ likeN s (cel s n) (n % 9) := like_mem.2 ⟨hn, rfl, rfl⟩
  have hp : (likeN s (cel s n) (n % 9)).Pairwise (· < ·) := by rw [like_col s _ hf]; exact (col_sorted _ hf).filter _
  unfold placeA likeA frontR
  by_cases ha : a = 1
  · rw [if_pos ha, idx_less _ hp n hm, like_col s _ hf, List.countP_filter]
    unfold colL
    rw [List.countP_map]
    refine List.countP_congr (fun r _ => ?_)
    simp only [Function.comp, if_pos ha, Bool.and_comm]
  · rw [if_neg ha, idx_more _ (List.pairwise_reverse.2 hp) n (List.mem_reverse.2 hm), List.countP_reverse, like_col s _ hf, List.countP_filter]
    unfold colL
    rw [List.countP_map]
    refine List.countP_congr (fun r _ => ?_)
    simp only [Function.comp, if_neg ha, Bool.and_comm]
end Go.Proofs.YtdkghbbjillboaaGreatDoor.K

/- Plain law of wxf: a text seen from the other side. -/
namespace Go.Proofs.YtdkghbbjillboaaGreatDoor.K
open Go.RowKit Go.Lib Go.Proofs.YtdkghbbjillboaaGreatDoorW.PrintWords Go.Proofs.YtdkghbbjillboaaGreatDoor.Sp
set_option linter.unusedVariables false
set_option linter.unusedSimpArgs false
theorem range_perm (n : Nat) : ((List.range n).map (fun i => n - 1 - i)).Perm (List.range n) := by
  have e : (List.range n).map (fun i => n - 1 - i) = (List.range n).reverse := by
    apply List.ext_getElem
    · simp
    · intro i h1 h2
      simp
  rw [e]
  exact List.reverse_perm _
theorem count_range {n : Nat} {P Q : Nat → Bool} (h : ∀ i, i < n → Q (n - 1 - i) = P i) : (List.range n).countP Q = (List.range n).countP P := by
  rw [← (range_perm n).countP_eq Q, List.countP_map]
  refine List.countP_congr (fun i hi => ?_)
  rw [← h i (List.mem_range.1 hi)]
  rfl
theorem swap_inj : ∀ x ∈ letters, ∀ y ∈ letters, (swapN x == swapN y) = (x == y) := by decide
theorem file_turn {n : Nat} (hn : n < 90) {a : Int} (ha : a = 0 ∨ a = 1) : fileA (89 - n) (1 - a) = fileA n a := by
  unfold fileA
  rcases ha with rfl | rfl
  · rw [if_pos (by decide), if_neg (by decide)]; omega
  · rw [if_neg (by decide), if_pos rfl]; omega
theorem ahead_turn {m : Mv} (h1 : m.1 < 90) (h2 : m.2 < 90) {a : Int} (ha : a = 0 ∨ a = 1) : aheadA (flipM m) (1 - a) = aheadA m a := by
  unfold aheadA flipM
  simp only
  rcases ha with rfl | rfl
  · rw [if_pos (by decide), if_neg (by decide)]; omega
  · rw [if_neg (by decide), if_pos rfl]; omega
section
variable {s : ByteArray} (hs : isBoard s = true)
include hs
theorem cel_turn {n : Nat} (hn : n < 90) : cel (turnS s) (89 - n) = swapN (cel s n) := by
  rw [(turnS_is hs).2 _ (by omega)]
  unfold turnC
  rw [show 89 - (89 - n) = n by omega]
theorem like_turn {c f : Nat} (hc : c ∈ letters) (hf : f < 9) : (likeN (turnS s) (swapN c) (8 - f)).length = (likeN s c f).length := by
  rw [many_col _ _ (by omega), many_col _ _ hf]
  refine count_range (n := 10) (fun i hi => ?_)
  rw [show 9 * (10 - 1 - i) + (8 - f) = 89 - (9 * i + f) by omega, cel_turn hs (by omega)]
  exact swap_inj _ (board_cell hs (by omega)) _ hc
theorem tandem_turn {c : Nat} (hc : c ∈ letters) : tandemN (turnS s) (swapN c) = tandemN s c := by
  unfold tandemN
  rw [← List.countP_eq_length_filter, ← List.countP_eq_length_filter]
  refine count_range (n := 9) (fun i hi => ?_)
  rw [show 9 - 1 - i = 8 - i by omega, like_turn hs hc hi]
theorem many_turn {n : Nat} (hn : n < 90) : manyA (turnS s) (89 - n) = manyA s n := by
  unfold manyA
  rw [cel_turn hs hn, show (89 - n) % 9 = 8 - n % 9 by omega]
  exact like_turn hs (board_cell hs hn) (Nat.mod_lt _ (by omega))
theorem place_turn {n : Nat} (hn : n < 90) {a : Int} (ha : a = 0 ∨ a = 1) : placeA (turnS s) (89 - n) (1 - a) = placeA s n a := by
  rw [place_front _ (by omega), place_front _ hn]
  unfold frontR
  refine count_range (n := 10) (fun i hi => ?_)
  rw [show (89 - n) % 9 = 8 - n % 9 by omega, show 9 * (10 - 1 - i) + (8 - n % 9) = 89 - (9 * i + n % 9) by omega, cel_turn hs (by omega), cel_turn hs hn, swap_inj _ (board_cell hs (by omega)) _ (board_cell hs hn)]
  congr 1
  rcases ha with rfl | rfl
  · rw [if_pos (by decide), if_neg (by decide), decide_eq_decide]; omega
  · rw [if_neg (by decide), if_pos rfl, decide_eq_decide]; omega
theorem kind_turn {n : Nat} (hn : n < 90) : kindN (cel (turnS s) (89 - n)) = kindN (cel s n) := by
  rw [cel_turn hs hn]; exact (swap_facts _ (board_cell hs hn)).2.2.1
/-- **A move has the same text.** -/
theorem text_turn {m : Mv} (h1 : m.1 < 90) (h2 : m.2 < 90) {a : Int} (ha : a = 0 ∨ a = 1) : textT (turnS s) (flipM m) (1 - a) = textT s m a := by
  unfold textT
  have e1 : pieceT (turnS s) (89 - m.1) (1 - a) = pieceT s m.1 a := by
    unfold pieceT
    rw [kind_turn hs h1, many_turn hs h1, place_turn hs h1 ha, file_turn h1 ha, cel_turn hs h1, tandem_turn hs (board_cell hs h1)]
  have e2 : wayT (turnS s) (flipM m) (1 - a) = wayT s m a := by
    have hk : kindN (cel (turnS s) (flipM m).1) = kindN (cel s m.1) := kind_turn hs h1
    have hf : fileA (flipM m).2 (1 - a) = fileA m.2 a := file_turn h2 ha
    unfold wayT
    rw [ahead_turn h1 h2 ha, hk, hf]
  rw [e2]
  exact congrArg (· ++ wayT s m a) e1
end
end Go.Proofs.YtdkghbbjillboaaGreatDoor.K

/- Plain law of quiet: seen from the other side a position is worth the same. -/
namespace Go.Proofs.YtdkghbbjillboaaGreatDoor.K
open Go.RowKit Go.Lib Go.Proofs.YtdkghbbjillboaaGreatDoorW.PrintWords Go.Proofs.YtdkghbbjillboaaGreatDoor.Sp
set_option linter.unusedVariables false
set_option linter.unusedSimpArgs false
theorem sumV_list (f : Nat → Int) (n : Nat) : sumV f n = ((List.range n).map f).sum := by
  induction n with
  | zero => rfl
  | succ n ih =>
    rw [List.range_succ, List.map_append, List.sum_append, ← ih]
    show sumV f n + f n = _
    simp
theorem perm_sum {l k : List Int} (h : l.Perm k) : l.sum = k.sum := by
  induction h with
  | nil => rfl
  | cons x _ ih => simp only [List.sum_cons, ih]
  | swap x y l => simp only [List.sum_cons]; omega
  | trans _ _ h1 h2 => exact h1.trans h2
theorem sumV_turn {f g : Nat → Int} {n : Nat} (h : ∀ i, i < n → g (n - 1 - i) = f i) : sumV g n = sumV f n := by
  rw [sumV_list, sumV_list]
  have h1 := perm_sum ((range_perm n).map g)
  rw [← h1, List.map_map]
  congr 1
  exact List.map_congr_left (fun i hi => h i (List.mem_range.1 hi))
theorem ownV_turn : ∀ a : Fin 2, ∀ x ∈ letters, ∀ n : Fin 90, ownV (1 - ((a.val : Nat) : Int)) (swapN x) (89 - n.val) = ownV ((a.val : Nat) : Int) x n.val := by decide +kernel
theorem val_turn {s : ByteArray} (hs : isBoard s = true) {a : Int} (ha : a = 0 ∨ a = 1) : valS (turnS s) (1 - a) = valS s a := by
  unfold valS
  refine sumV_turn (n := 90) (fun i hi => ?_)
  rw [show 90 - 1 - i = 89 - i by omega, cel_turn hs hi]
  rcases ha with rfl | rfl
  · exact ownV_turn 0 _ (board_cell hs hi) ⟨i, hi⟩
  · exact ownV_turn 1 _ (board_cell hs hi) ⟨i, hi⟩
theorem bestF_map (f : Mv → Int) (g : Mv → Mv) (l : List Mv) : ∀ b, bestF f b (l.map g) = bestF (fun m => f (g m)) b l := by
  induction l with
  | nil => exact fun _ => rfl
  | cons m r ih => exact fun b => ih _
theorem take_turn {p : Pos} (hw : wellS p = 0) : takeL (turnS p.cells) (legalR (turnS p.cells) (1 - p.side)) = ((takeL p.cells (legalR p.cells p.side)).map flipM).reverse := by
  have hck := well_check hw
  obtain ⟨hbd, hsd, _⟩ := argOk_yes (checkP_parts hck).1
  have hwt : wellS (turnP p) = 0 := by rw [well_turn hbd hsd, hw]
  have e1 : legalR (turnS p.cells) (1 - p.side) = ((legalR p.cells p.side).map flipM).reverse := by
    have := legal_turn hbd hsd
    rw [legal_eq hw, legal_eq hwt] at this
    exact this
  unfold takeL
  rw [e1, List.filter_reverse, List.filter_map]
  congr 2
  refine List.filter_congr (fun m hm => ?_)
  have hm2 : m.2 < 90 := (gathM_mem (Nat.le_refl _) (List.mem_filter.1 hm).1).2
  show (cel (turnS p.cells) (89 - m.2) != 46) = (cel p.cells m.2 != 46)
  rw [cel_turn hbd hm2]
  have h := (swap_facts _ (board_cell hbd hm2)).2.1
  rw [Bool.eq_iff_iff, bne_iff_ne, bne_iff_ne]
  exact not_congr h
theorem quietF_turn : ∀ (k : Nat) (p : Pos), wellS p = 0 → quietF k (turnS p.cells) (1 - p.side) = quietF k p.cells p.side
  | 0, _, _ => rfl
  | k + 1, p, hw => by
    have hck := well_check hw
    obtain ⟨hbd, hsd, _⟩ := argOk_yes (checkP_parts hck).1
    have hwt : wellS (turnP p) = 0 := by rw [well_turn hbd hsd, hw]
    have e1 : legalR (turnS p.cells) (1 - p.side) = ((legalR p.cells p.side).map flipM).reverse := by
      have := legal_turn hbd hsd
      rw [legal_eq hw, legal_eq hwt] at this
      exact this
    unfold quietF
    by_cases he : legalR p.cells p.side = []
    · rw [if_pos he, if_pos (by rw [e1, he]; rfl)]
    · rw [if_neg he, if_neg (by rw [e1]; simpa using he), take_turn hw, val_turn hbd hsd, bestF_perm _ (List.reverse_perm _), bestF_map]
      refine bestF_congr _ (fun m hm => ?_) _
      obtain ⟨q, hc, hs, hwq, _, hl⟩ := take_less hw hm
      obtain ⟨_, hg, _⟩ := legal_mem.1 hl
      obtain ⟨_, h1, h2, h3, h4, _⟩ := gath_mem hg
      obtain ⟨_, _, _, hab, _⟩ := move_parts hck h1 h2 h3 h4
      have hq := (argOk_yes (checkP_parts (well_check hwq)).1).1
      rw [hc] at hq
      show - quietF k (movedB (turnS p.cells) (89 - m.1) (89 - m.2)) (1 - (1 - p.side)) = - quietF k (movedB p.cells m.1 m.2) (1 - p.side)
      rw [moved_turn hbd hq h1 h2 hab, ← hc, ← hs]
      rw [quietF_turn k q hwq]
theorem nP_turn {s : ByteArray} (hs : isBoard s = true) : nP (turnS s) = nP s := by
  have h : ∀ a : Int, (a = 0 ∨ a = 1) → (piecesS (turnS s) (1 - a)).length = (piecesS s a).length := by
    intro a ha
    unfold piecesS
    rw [if_pos hs, if_pos (turnS_is hs).1, ← List.countP_eq_length_filter, ← List.countP_eq_length_filter]
    refine count_range (n := 90) (fun i hi => ?_)
    rw [show 90 - 1 - i = 89 - i by omega, cel_turn hs hi]
    have hf := (swap_facts _ (board_cell hs hi)).2.2.2.1
    rw [hf]
    rcases sideV (cel s i) with h | h | h <;> rcases ha with rfl | rfl <;> rw [h] <;> decide
  unfold nP
  have h0 := h 0 (.inl rfl)
  have h1 := h 1 (.inr rfl)
  rw [show ((1 : Int) - 0) = 1 from rfl] at h0
  rw [show ((1 : Int) - 1) = 0 from rfl] at h1
  omega
/-- **Seen from the other side it is worth the same.** -/
theorem quiet_turn {p : Pos} (hw : wellS p = 0) : quietP (turnP p) = quietP p := by
  have hbd := (argOk_yes (checkP_parts (well_check hw)).1).1
  unfold quietP
  show quietF (nP (turnS p.cells) + 1) (turnS p.cells) (1 - p.side) = _
  rw [nP_turn hbd, quietF_turn _ p hw]
end Go.Proofs.YtdkghbbjillboaaGreatDoor.K

/- Plain law of quiet's two functions: Of, Window. -/
namespace Go.Proofs.YtdkghbbjillboaaGreatDoor.K
open Go.RowKit Go.Lib Go.Proofs.YtdkghbbjillboaaGreatDoorW.PrintWords Go.Proofs.YtdkghbbjillboaaGreatDoor.Sp
set_option linter.unusedVariables false
set_option linter.unusedSimpArgs false
def ofQ (p : Pos) : Int := if wellS p = 0 then quietP p else 0
theorem ofQ_le (p : Pos) : -30000 ≤ ofQ p ∧ ofQ p ≤ 30000 := by
  have := quietP_le p
  unfold ofQ
  split <;> omega
/-- What of it lies between two bounds; none, if these are none. -/
def winQ (p : Pos) (low high : Int) : Int := if high ≤ low then low else clipI (ofQ p) low high
theorem winQ_in {p : Pos} {low high : Int} (h : low < high) : winQ p low high = clipI (ofQ p) low high := if_neg (by omega)
theorem winQ_big {p : Pos} {low high : Int} (h : low < high) (h1 : 1073741824 ≤ low) : winQ p low high = low := by
  rw [winQ_in h]; have := ofQ_le p; unfold clipI; omega
theorem winQ_small {p : Pos} {low high : Int} (h : low < high) (h1 : high ≤ -1073741824) : winQ p low high = high := by
  rw [winQ_in h]; have := ofQ_le p; unfold clipI; omega
theorem winQ_cut {p : Pos} {low high : Int} (h : low < high) (h1 : ¬ 1073741824 ≤ low) (h2 : ¬ high ≤ -1073741824) : winQ p low high = clipI (ofQ p) (max low (-1073741824)) (min high 1073741824) := by
  rw [winQ_in h]; have := ofQ_le p; unfold clipI; omega
theorem winQ_of {p : Pos} : ofQ p = clipI (ofQ p) (-1073741824) 1073741824 := by have := ofQ_le p; unfold clipI; omega
theorem ofQ_turn {p : Pos} (hw : wellS p = 0) : ofQ (turnP p) = ofQ p := by
  obtain ⟨hbd, hsd, _⟩ := argOk_yes (checkP_parts (well_check hw)).1
  have hwt : wellS (turnP p) = 0 := by rw [well_turn hbd hsd, hw]
  unfold ofQ
  rw [if_pos hw, if_pos hwt, quiet_turn hw]
theorem winQ_turn {p : Pos} (hw : wellS p = 0) (low high : Int) : winQ (turnP p) low high = winQ p low high := by
  unfold winQ
  rw [ofQ_turn hw]
/-- **What lies between two bounds lies there; between wider ones it is the same.** -/
theorem win_wide {p : Pos} {low high : Int} (h : low < high) : (low ≤ winQ p low high ∧ winQ p low high ≤ high) ∧ (low < winQ p low high ∧ winQ p low high < high → winQ p (low - 50) (high + 50) = winQ p low high) ∧ (winQ p low high = low → winQ p (low - 50) (high + 50) ≤ low) ∧ (winQ p low high = high → high ≤ winQ p (low - 50) (high + 50)) := by
  rw [winQ_in h, winQ_in (show low - 50 < high + 50 by omega)]
  unfold clipI
  omega
/-- So few pieces. -/
theorem count_two : ∀ (l : List Nat) (p q r : Nat → Bool), (∀ i ∈ l, r i = (p i || q i) ∧ (p i && q i) = false) → l.countP p + l.countP q = l.countP r
  | [], _, _, _, _ => rfl
  | x :: l, p, q, r, h => by
    have ih := count_two l p q r (fun i hi => h i (List.mem_cons_of_mem _ hi))
    obtain ⟨h1, h2⟩ := h x List.mem_cons_self
    simp only [List.countP_cons]
    rw [h1]
    cases hp : p x <;> cases hq : q x <;> simp_all <;> omega
theorem nP_count {s : ByteArray} (hs : isBoard s = true) : nP s = ((List.range 90).filter (fun i => cel s i != 46)).length := by
  unfold nP piecesS
  rw [if_pos hs, if_pos hs, ← List.countP_eq_length_filter, ← List.countP_eq_length_filter, ← List.countP_eq_length_filter]
  refine count_two _ _ _ _ (fun i hi => ?_)
  rcases letter_side _ (board_cell hs (List.mem_range.1 hi)) with ⟨h1, h2⟩ | ⟨h1, h2⟩ | ⟨h1, h2⟩
  · rw [h1, show sideN 46 = -1 from rfl]; decide
  · rw [h2]; simp [h1]
  · rw [h2]; simp [h1]
end Go.Proofs.YtdkghbbjillboaaGreatDoor.K
