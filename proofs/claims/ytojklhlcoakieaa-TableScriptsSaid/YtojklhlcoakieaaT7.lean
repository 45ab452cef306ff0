/- Walks of the laws TableNil and TableUse. -/
import Derived.Test.YtojklhlcoakieaaT6
namespace Go.Proofs.Ytojklhlcoakieaa.P
open Go.RowKit Go.Lib Go.Proofs.YtojklhlcoakieaaW.PrintWords Go.Proofs.YtojklhlcoakieaaW.PrintLast Go.Proofs.YtojklhlcoakieaaW.PrintMore
set_option linter.unusedVariables false
set_option linter.unusedSimpArgs false
theorem put_nil' (w : World) (e : Ent)  :
  Calls Try.prog 9 #[.pointer none, entV e] w fun x w' => x = .returned (.bool false) ∧ Below w.heap.size w w' := put_nil w 0 e
theorem below_cell {W w1 : World} (hb : Below W.heap.size W w1) (g o : Nat) (v : Value) (h : W.cell? ⟨g, o, none⟩ = some v) : w1.cell? ⟨g, o, none⟩ = some v :=
  (hb.cell (p := ⟨g, o, none⟩) (World.block_lt_of_cell? W _ h)).trans h
/-- An entry in a block of its own. -/
def BoxAt (W : World) (b : Nat) (e : Ent) : Prop :=
  b < W.heap.size ∧ W.cell? ⟨b, 0, none⟩ = some (.int .u64 e.key) ∧ W.cell? ⟨b, 1, none⟩ = some (.int .i64 e.depth) ∧ W.cell? ⟨b, 2, none⟩ = some (.int .i64 e.score) ∧ W.cell? ⟨b, 3, none⟩ = some (.int .i64 e.sure) ∧ W.cell? ⟨b, 4, none⟩ = some (.int .i64 e.frm) ∧ W.cell? ⟨b, 5, none⟩ = some (.int .i64 e.dest)
theorem BoxAt.below {W W' : World} {b : Nat} {e : Ent} (h : BoxAt W b e) (hb : Below W.heap.size W W') : BoxAt W' b e := by
  obtain ⟨h0, h1, h2, h3, h4, h5, h6⟩ := h
  exact ⟨Nat.lt_of_lt_of_le h0 hb.size, below_cell hb _ _ _ h1, below_cell hb _ _ _ h2, below_cell hb _ _ _ h3, below_cell hb _ _ _ h4, below_cell hb _ _ _ h5, below_cell hb _ _ _ h6⟩
theorem BoxAt.new (W : World) (e : Ent) (t : TypeId) : BoxAt (W.alloc (.cells #[.int .u64 e.key, .int .i64 e.depth, .int .i64 e.score, .int .i64 e.sure, .int .i64 e.frm, .int .i64 e.dest] t)) W.heap.size e := by
  refine ⟨by simp, ?_, ?_, ?_, ?_, ?_, ?_⟩ <;> simp
theorem BoxAt.turned {W W' : World} {b sb g : Nat} {e : Ent} (h : BoxAt W g e) (hb : Turned b sb W W') (n1 : g ≠ b) (n2 : g ≠ sb) : BoxAt W' g e := by
  obtain ⟨h0, h1, h2, h3, h4, h5, h6⟩ := h
  exact ⟨Nat.lt_of_lt_of_le h0 hb.size, (hb.cell g _ h0 n1 n2).trans h1, (hb.cell g _ h0 n1 n2).trans h2, (hb.cell g _ h0 n1 n2).trans h3, (hb.cell g _ h0 n1 n2).trans h4, (hb.cell g _ h0 n1 n2).trans h5, (hb.cell g _ h0 n1 n2).trans h6⟩
set_option maxHeartbeats 1000000 in
theorem tableNil_walk (w : World) (e : Ent) (hk : 0 ≤ e.key) :
  Calls Try.prog 5 #[entV e] w fun x w' => x = .returned (.bool true) ∧ Below w.heap.size w w' := by
  go_enter Try.func5, Try.ntmps5
  go_wp2_with fail
  refine (get_nil _ _).mono ?_
  rintro y w1 ⟨rfl, hb⟩
  have HB := Aside0.mk ((below_alloc (Below.refl w.heap.size w) _).trans (hb.mono (by simp)))
  have hx := (BoxAt.new w e 36).below hb
  have HX := Aside0.mk hx
  obtain ⟨e0, e1, e2, e3, e4, e5, e6⟩ := hx
  clear hb
  go_wp2_with fail
  clear e0 e1 e2 e3 e4 e5 e6
  have hE : Below w1.heap.size w1 (w1.alloc (.cells #[.int .u64 0, .int .i64 0, .int .i64 0, .int .i64 0, .int .i64 0, .int .i64 0] 40)) := below_alloc (Below.refl _ _) _
  have hx := HX.out.below hE
  have hy := BoxAt.new w1 zeroEnt 40
  have HB1 := Aside0.mk (HB.out.trans (hE.mono HB.out.size))
  clear HX HB hE
  refine (use_walk _ _ e.key e.depth 0 0 zeroEnt false (fun W hW => get_nil W e.key)).mono ?_
  rintro y w2 ⟨rfl, hb⟩
  rw [show useF (zeroEnt, false) e.depth 0 0 = (0, false) from by simp [useF]]
  have HB2 := Aside0.mk (HB1.out.trans (hb.mono HB1.out.size))
  have hx := hx.below hb
  have hy := hy.below hb
  have HX := Aside0.mk hx
  have HY := Aside0.mk hy
  clear HB1 hb
  obtain ⟨e0, e1, e2, e3, e4, e5, e6⟩ := hx
  obtain ⟨z0, z1, z2, z3, z4, z5, z6⟩ := hy
  go_wp2_with fail
  refine (clear_nil _).mono ?_
  rintro y w3 ⟨rfl, rfl⟩
  go_wp2_with fail
  clear e0 e1 e2 e3 e4 e5 e6 z0 z1 z2 z3 z4 z5 z6
  refine (own_walk _ e).mono ?_
  rintro y w4 ⟨rfl, hb⟩
  have HB4 := Aside0.mk (HB2.out.trans (hb.mono HB2.out.size))
  have HY4 := Aside0.mk (HY.out.below hb)
  clear hb HB2 HX HY
  go_wp2_with fail
  refine (put_nil' _ e).mono ?_
  rintro y w5 ⟨rfl, hb⟩
  have HB5 := Aside0.mk (HB4.out.trans (hb.mono HB4.out.size))
  have hy := HY4.out.below hb
  clear hb HB4 HY4
  obtain ⟨z0, z1, z2, z3, z4, z5, z6⟩ := hy
  go_wp2_with fail
  clear z0 z1 z2 z3 z4 z5 z6
  refine (count_nil _).mono ?_
  rintro y w6 ⟨rfl, ⟨q, rfl⟩⟩
  go_wp2_with fail
  refine (live_walk _).mono ?_
  rintro y w7 ⟨rfl, hb⟩
  have HB7 := Aside0.mk ((pw_below_drewN HB5.out q).trans (hb.mono (by simpa using HB5.out.size)))
  clear hb HB5
  go_wp2_with fail
  go_ret
  exact ⟨rfl, HB7.out⟩
/-- What Use tells of an entry. -/
theorem use_cases (e : Ent) (depth low high : Int) : useF (e, true) depth low high = (0, false) ∨ (useF (e, true) depth low high = (e.score, true) ∧ depth ≤ e.depth ∧ (e.sure = 1 → high ≤ e.score) ∧ (e.sure = 2 → e.score ≤ low)) := by
  unfold useF
  by_cases h1 : e.depth < depth
  · left; simp [h1]
  · rw [if_neg (by simp; omega)]
    by_cases h2 : e.sure = 1
    · by_cases h3 : high ≤ e.score
      · right; simp [h2, h3]; omega
      · left; simp [h2, h3]
    · by_cases h3 : e.sure = 2
      · by_cases h4 : e.score ≤ low
        · right; simp [h3, h4]; omega
        · left; simp [h3, h4]
      · right; simp [h2, h3]; omega
/-- What Put, then Use tells of one entry in an empty table: four ways. -/
def UseWays (e : Ent) (depth low high : Int) (p u : Bool) (n : Int) : Prop :=
  (e.sure < 0 ∧ p = false ∧ n = 0 ∧ u = false) ∨ (0 ≤ e.sure ∧ 2 < e.sure ∧ p = false ∧ n = 0 ∧ u = false) ∨ (0 ≤ e.sure ∧ e.sure ≤ 2 ∧ p = true ∧ n = 0 ∧ u = false) ∨
  (0 ≤ e.sure ∧ e.sure ≤ 2 ∧ p = true ∧ n = e.score ∧ u = true ∧ depth ≤ e.depth ∧ (e.sure = 1 → high ≤ e.score) ∧ (e.sure = 2 → e.score ≤ low))
theorem use_ways (e : Ent) (depth low high : Int) : UseWays e depth low high (putF (fun _ => none) 7 0 e).1 (useF (getF (putF (fun _ => none) 7 0 e).2.1 7 e.key) depth low high).2 (useF (getF (putF (fun _ => none) 7 0 e).2.1 7 e.key) depth low high).1 := by
  unfold UseWays
  by_cases h0 : e.sure < 0
  · have hp : putF (fun _ => none) 7 0 e = (false, fun _ => none, 0) := by unfold putF; rw [show decide (e.sure < 0) = true from decide_eq_true h0]; rfl
    left; rw [hp]; exact ⟨h0, rfl, by simp [getF, useF], by simp [getF, useF]⟩
  by_cases h1 : 2 < e.sure
  · have hp : putF (fun _ => none) 7 0 e = (false, fun _ => none, 0) := by unfold putF; rw [show decide (2 < e.sure) = true from decide_eq_true h1, Bool.or_true]; rfl
    right; left; rw [hp]; exact ⟨by omega, h1, rfl, by simp [getF, useF], by simp [getF, useF]⟩
  have hp : putF (fun _ => none) 7 0 e = (true, putT (fun _ => none) (slotN e.key 7) e, 1) := by unfold putF; rw [show decide (e.sure < 0) = false from decide_eq_false h0, show decide (2 < e.sure) = false from decide_eq_false h1]; rfl
  have hg : getF (putT (fun _ => none) (slotN e.key 7) e) 7 e.key = (e, true) := by simp [getF, putT]
  right; right; rw [hp]
  show _ ∨ _
  rcases use_cases e depth low high with h | ⟨h, h2⟩
  · left; exact ⟨by omega, by omega, rfl, by show (useF (getF (putT (fun _ => none) (slotN e.key 7) e) 7 e.key) depth low high).1 = 0; rw [hg, h], by show (useF (getF (putT (fun _ => none) (slotN e.key 7) e) 7 e.key) depth low high).2 = false; rw [hg, h]⟩
  · right; exact ⟨by omega, by omega, rfl, by show (useF (getF (putT (fun _ => none) (slotN e.key 7) e) 7 e.key) depth low high).1 = e.score; rw [hg, h], by show (useF (getF (putT (fun _ => none) (slotN e.key 7) e) 7 e.key) depth low high).2 = true; rw [hg, h], h2⟩
set_option maxHeartbeats 1000000 in
theorem tableUse_walk (w : World) (e : Ent) (depth low high : Int) (hk : 0 ≤ e.key) :
  Calls Try.prog 4 #[.agg #[.int .u64 e.key, .int .i64 e.depth, .int .i64 e.score, .int .i64 e.sure, .int .i64 e.frm, .int .i64 e.dest, .int .i64 depth, .int .i64 low, .int .i64 high]] w fun x w' => x = .returned (.bool true) ∧ Below w.heap.size w w' := by
  go_enter Try.func4, Try.ntmps4
  go_wp2_with fail
  go_region_held3 (fun W => W.cell? ⟨w.heap.size, 0, none⟩ = some (.int .u64 e.key) ∧ W.cell? ⟨w.heap.size, 1, none⟩ = some (.int .i64 e.depth) ∧ W.cell? ⟨w.heap.size, 2, none⟩ = some (.int .i64 e.score) ∧ W.cell? ⟨w.heap.size, 3, none⟩ = some (.int .i64 e.sure) ∧ W.cell? ⟨w.heap.size, 4, none⟩ = some (.int .i64 e.frm) ∧ W.cell? ⟨w.heap.size, 5, none⟩ = some (.int .i64 e.dest) ∧ W.cell? ⟨w.heap.size, 6, none⟩ = some (.int .i64 depth) ∧ W.cell? ⟨w.heap.size, 7, none⟩ = some (.int .i64 low) ∧ W.cell? ⟨w.heap.size, 8, none⟩ = some (.int .i64 high)) (go_keep) (fail)
  have hb0 : Below w.heap.size w ((w.alloc (.cells #[.int .u64 e.key, .int .i64 e.depth, .int .i64 e.score, .int .i64 e.sure, .int .i64 e.frm, .int .i64 e.dest, .int .i64 depth, .int .i64 low, .int .i64 high] 52)).alloc (.cells #[.int .u64 e.key, .int .i64 e.depth, .int .i64 e.score, .int .i64 e.sure, .int .i64 e.frm, .int .i64 e.dest] 36)).drew := by
    refine Below.drew ?_
    (repeat' (first | (with_reducible exact Below.refl _ _) | (with_reducible refine pw_below_drewN ?_ _) | (with_reducible refine below_alloc ?_ _) | (with_reducible refine Below.drew ?_) | (with_reducible refine Below.setCell ?_ ?_ _) | (simp; done)))
  have hx : BoxAt ((w.alloc (.cells #[.int .u64 e.key, .int .i64 e.depth, .int .i64 e.score, .int .i64 e.sure, .int .i64 e.frm, .int .i64 e.dest, .int .i64 depth, .int .i64 low, .int .i64 high] 52)).alloc (.cells #[.int .u64 e.key, .int .i64 e.depth, .int .i64 e.score, .int .i64 e.sure, .int .i64 e.frm, .int .i64 e.dest] 36)).drew (w.heap.size + 1) e := by
    have h := BoxAt.new (w.alloc (.cells #[.int .u64 e.key, .int .i64 e.depth, .int .i64 e.score, .int .i64 e.sure, .int .i64 e.frm, .int .i64 e.dest, .int .i64 depth, .int .i64 low, .int .i64 high] 52)) e 36
    rw [show (w.alloc (.cells #[.int .u64 e.key, .int .i64 e.depth, .int .i64 e.score, .int .i64 e.sure, .int .i64 e.frm, .int .i64 e.dest, .int .i64 depth, .int .i64 low, .int .i64 high] 52)).heap.size = w.heap.size + 1 by simp] at h
    exact h
  generalize ((w.alloc (.cells #[.int .u64 e.key, .int .i64 e.depth, .int .i64 e.score, .int .i64 e.sure, .int .i64 e.frm, .int .i64 e.dest, .int .i64 depth, .int .i64 low, .int .i64 high] 52)).alloc (.cells #[.int .u64 e.key, .int .i64 e.depth, .int .i64 e.score, .int .i64 e.sure, .int .i64 e.frm, .int .i64 e.dest] 36)).drew = W0 at hb0 hx
  have HX := Aside0.mk hx
  have HB := Aside0.mk hb0
  clear hx hb0
  go_wp2_with fail
  refine (new_walk W0 7 (by decide) (by decide)).mono ?_
  rintro y w1 ⟨rfl, ht, hb⟩
  have H1 := Aside0.mk ht
  have hx := HX.out.below hb
  have HX1 := Aside0.mk hx
  have HB1 := Aside0.mk (HB.out.trans (hb.mono HB.out.size))
  have HZ := Aside0.mk (show w.heap.size + 1 < W0.heap.size from HX.out.1)
  clear ht hb HX
  obtain ⟨e0, e1, e2, e3, e4, e5, e6⟩ := hx
  go_wp2_with fail
  refine (own_walk _ e).mono ?_
  clear e0 e1 e2 e3 e4 e5 e6
  rintro y w2 ⟨rfl, hb⟩
  have H2 := Aside0.mk (H1.out.below hb)
  have HX2 := Aside0.mk (HX1.out.below hb)
  have HB2 := Aside0.mk (HB1.out.trans (hb.mono HB1.out.size))
  clear hb H1 HX1 HB1
  go_wp2_with fail
  refine (put_walk _ _ _ 7 0 _ e hk H2.out (by decide)).mono ?_
  rintro y w3 ⟨rfl, ht, hb⟩
  have hu := use_ways e depth low high
  have hz := HZ.out
  have HB3 := Aside0.mk (HB2.out.trans (hb.below (B := w.heap.size) (by omega) (by omega) HB2.out.size))
  have hx : BoxAt w3 (w.heap.size + 1) e := HX2.out.turned hb (by omega) (by omega)
  generalize putF (fun _ => none) 7 0 e = R at ht hu
  obtain ⟨p, T, c⟩ := R
  have HU := Aside0.mk hu
  have H3 := Aside0.mk ht
  have HX3 := Aside0.mk hx
  clear ht hb hz HB2 H2 HX2 hu
  obtain ⟨e0, e1, e2, e3, e4, e5, e6⟩ := hx
  go_wp2_with fail
  refine (use_walk w3 _ e.key depth low high (getF T 7 e.key).1 (getF T 7 e.key).2 (fun W hW => get_walk W _ _ 7 c T e.key hk (H3.out.below hW))).mono ?_
  clear e0 e1 e2 e3 e4 e5 e6
  rintro y w4 ⟨rfl, hb⟩
  have HB4 := Aside0.mk (HB3.out.trans (hb.mono HB3.out.size))
  have hx := HX3.out.below hb
  have hu := HU.out
  clear hb HB3 HX3 HU H3
  rw [show ((getF T 7 e.key).1, (getF T 7 e.key).2) = getF T 7 e.key from rfl]
  generalize useF (getF T 7 e.key) depth low high = r at hu
  obtain ⟨n, u⟩ := r
  dsimp only at hu ⊢
  obtain ⟨e0, e1, e2, e3, e4, e5, e6⟩ := hx
  have hl : ∀ W, Below w.heap.size w W → Calls Try.prog 7 #[] W fun e w' => e = .returned (.bool true) ∧ Below w.heap.size w w' := fun W hW => (live_walk W).mono fun _ _ ⟨h1, h2⟩ => ⟨h1, hW.trans (h2.mono hW.size)⟩
  have HLv := Aside0.mk hl
  clear hl
  rcases hu with ⟨h0, rfl, rfl, rfl⟩ | ⟨h0, h1, rfl, rfl, rfl⟩ | ⟨h0, h1, rfl, rfl, rfl⟩ | ⟨h0, h1, rfl, rfl, rfl, h2, h3, h4⟩
  all_goals
    go_wp2_with fail
  all_goals
    refine (HLv.out _ HB4.out).mono ?_
    rintro y w5 ⟨rfl, hb⟩
    have HB5 := Aside0.mk hb
    clear hb
    go_wp2_with fail
    go_ret
    exact ⟨rfl, HB5.out⟩
end Go.Proofs.Ytojklhlcoakieaa.P
