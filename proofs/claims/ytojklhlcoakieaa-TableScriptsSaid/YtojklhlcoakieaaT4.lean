/- Walks of the table's Use and Clear; Put and Get in one contract each. -/
import Derived.Test.YtojklhlcoakieaaT3
import Derived.Lib.SliceRun
namespace Go.Proofs.Ytojklhlcoakieaa.P
open Go.RowKit Go.Lib Go.Proofs.YtojklhlcoakieaaW.PrintWords Go.Proofs.YtojklhlcoakieaaW.PrintLast Go.Proofs.YtojklhlcoakieaaW.PrintMore
set_option linter.unusedVariables false
set_option linter.unusedSimpArgs false
abbrev zeroEnt : Ent := ⟨0, 0, 0, 0, 0, 0⟩
/-- What is got of a key. -/
def getF (T : Nat → Option Ent) (n : Nat) (key : Int) : Ent × Bool :=
  match T (slotN key n) with
  | none => (zeroEnt, false)
  | some x => if x.key == key then (x, true) else (zeroEnt, false)
theorem get_walk (w : World) (b sb n c : Nat) (T : Nat → Option Ent) (key : Int) (hk : 0 ≤ key) (h : TabAt w b sb n T c) :
  Calls Try.prog 12 #[.pointer (some ⟨b, 0, none⟩), .int .u64 key] w fun e w' => e = .returned (.tuple #[entV (getF T n key).1, .bool (getF T n key).2]) ∧ Below w.heap.size w w' := by
  rcases hT : T (slotN key n) with _ | x
  · have hg : getF T n key = (zeroEnt, false) := by unfold getF; rw [hT]
    rw [hg]
    exact get_none w b sb n c T key hk _ rfl h hT
  · cases hx : (x.key == key)
    · have hg : getF T n key = (zeroEnt, false) := by unfold getF; rw [hT]; simp [hx]
      rw [hg]
      exact get_other w b sb n c T key hk _ rfl h x hT hx
    · have hg : getF T n key = (x, true) := by unfold getF; rw [hT]; simp [hx]
      rw [hg]
      exact get_found w b sb n c T key hk _ rfl h x hT hx
theorem get_nil (w : World) (key : Int) :
  Calls Try.prog 12 #[.pointer none, .int .u64 key] w fun e w' => e = .returned (.tuple #[entV zeroEnt, .bool false]) ∧ Below w.heap.size w w' := by
  go_enter Try.func12, Try.ntmps12
  go_wp2_with fail
  go_returns
  refine ⟨rfl, ?_⟩
  repeat' (first | (with_reducible exact Below.refl _ _) | (with_reducible refine pw_below_drewN ?_ _) | (with_reducible refine below_alloc ?_ _) | (with_reducible refine Below.drew ?_) | (with_reducible refine Below.setCell ?_ ?_ _) | (simp; done))
/-- What a Put answers, and makes of the table. -/
def putF (T : Nat → Option Ent) (n c : Nat) (e : Ent) : Bool × (Nat → Option Ent) × Nat :=
  if decide (e.sure < 0) || decide (2 < e.sure) then (false, T, c) else
  match T (slotN e.key n) with
  | none => (true, putT T (slotN e.key n) e, c + 1)
  | some x => if !(x.key == e.key) && decide (e.depth < x.depth) then (false, T, c) else (true, putT T (slotN e.key n) e, c)
theorem put_walk (w : World) (b sb n c : Nat) (T : Nat → Option Ent) (e : Ent) (hk : 0 ≤ e.key) (h : TabAt w b sb n T c) (hc : c < 4611686018427387904) :
  Calls Try.prog 9 #[.pointer (some ⟨b, 0, none⟩), entV e] w fun x w' => x = .returned (.bool (putF T n c e).1) ∧ TabAt w' b sb n (putF T n c e).2.1 (putF T n c e).2.2 ∧ Turned b sb w w' := by
  cases s0 : decide (e.sure < 0)
  case true =>
    have hp : putF T n c e = (false, T, c) := by unfold putF; rw [s0]; rfl
    rw [hp]
    exact (put_low w b e s0).mono fun x w' ⟨h1, h2⟩ => ⟨h1, h.below h2, Turned.of_below _ _ h2⟩
  cases s1 : decide (2 < e.sure)
  case true =>
    have hp : putF T n c e = (false, T, c) := by unfold putF; rw [s0, s1]; rfl
    rw [hp]
    exact (put_high w b e s0 s1).mono fun x w' ⟨h1, h2⟩ => ⟨h1, h.below h2, Turned.of_below _ _ h2⟩
  rcases hT : T (slotN e.key n) with _ | x
  · have hp : putF T n c e = (true, putT T (slotN e.key n) e, c + 1) := by unfold putF; rw [s0, s1, hT]; rfl
    rw [hp]
    exact put_new w b sb n c T e hk _ rfl h hT s0 s1 (by unfold IntKind.wrap; simp [IntKind.signed, IntKind.bits]; omega)
  · cases x0 : (x.key == e.key)
    · cases x1 : decide (e.depth < x.depth)
      · have hp : putF T n c e = (true, putT T (slotN e.key n) e, c) := by unfold putF; rw [s0, s1, hT]; simp [x1]
        rw [hp]
        exact put_over w b sb n c T e hk _ rfl h x hT s0 s1 x0 x1
      · have hp : putF T n c e = (false, T, c) := by unfold putF; rw [s0, s1, hT]; simp [x0, x1]
        rw [hp]
        exact (put_keep w b sb n c T e hk _ rfl h x hT s0 s1 x0 x1).mono fun x w' ⟨h1, h2⟩ => ⟨h1, h.below h2, Turned.of_below _ _ h2⟩
    · have hp : putF T n c e = (true, putT T (slotN e.key n) e, c) := by unfold putF; rw [s0, s1, hT]; simp [x0]
      rw [hp]
      exact put_same w b sb n c T e hk _ rfl h x hT s0 s1 x0
/-- What is used of what was got. -/
def useF (g : Ent × Bool) (depth low high : Int) : Int × Bool :=
  if g.2 = false ∨ g.1.depth < depth then (0, false) else
  if (if g.1.sure = 1 then high ≤ g.1.score else if g.1.sure = 2 then g.1.score ≤ low else True) then (g.1.score, true) else (0, false)
theorem ret_ib {r : Int × Bool} {x : Int} {b : Bool} (h : r = (x, b)) : Ending.returned (.tuple #[.int .i64 x, .bool b]) = Ending.returned (.tuple #[.int .i64 r.1, .bool r.2]) := by rw [h]
theorem use_walk (w : World) (p : Value) (key depth low high : Int) (g : Ent) (is : Bool)
  (hg : ∀ W, Below w.heap.size w W → Calls Try.prog 12 #[p, .int .u64 key] W fun e w' => e = .returned (.tuple #[entV g, .bool is]) ∧ Below W.heap.size W w') :
  Calls Try.prog 14 #[p, .int .u64 key, .int .i64 depth, .int .i64 low, .int .i64 high] w fun e w' => e = .returned (.tuple #[.int .i64 (useF (g, is) depth low high).1, .bool (useF (g, is) depth low high).2]) ∧ Below w.heap.size w w' := by
  have HG := Aside0.mk hg
  clear hg
  go_enter Try.func14, Try.ntmps14
  go_wp2_with fail
  refine (HG.out _ (by repeat' (first | (with_reducible exact Below.refl _ _) | (with_reducible refine pw_below_drewN ?_ _) | (with_reducible refine below_alloc ?_ _) | (with_reducible refine Below.drew ?_) | (with_reducible refine Below.setCell ?_ ?_ _) | (simp; done)))).mono ?_
  rintro e w1 ⟨rfl, hb⟩
  have HB := Aside0.mk hb
  clear hb
  go_wp2_with fail
  clear HG
  all_goals
    go_returns
    refine ⟨ret_ib ?_, (by
      have hb := HB.out
      exact hb.trans (below_alloc (Below.refl _ _) _ |>.mono hb.size))⟩
    clear HB
    unfold useF
    first | (simp_all; done) | (simp_all; omega) | skip
end Go.Proofs.Ytojklhlcoakieaa.P
