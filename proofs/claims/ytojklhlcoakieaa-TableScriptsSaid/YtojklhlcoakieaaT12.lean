/- Walks of the reference's table: Get, Use. -/
import Derived.Test.YtojklhlcoakieaaT11
namespace Go.Proofs.Ytojklhlcoakieaa.P
open Go.RowKit Go.Lib Go.Proofs.YtojklhlcoakieaaW.PrintWords Go.Proofs.YtojklhlcoakieaaW.PrintLast Go.Proofs.YtojklhlcoakieaaW.PrintMore
set_option linter.unusedVariables false
set_option linter.unusedSimpArgs false
theorem RefAt.below {W W' : World} {kb n : Nat} {L : List Ent} (h : RefAt W kb n L) (hb : Below W.heap.size W W') : RefAt W' kb n L := by
  have hlt : kb < W.heap.size := World.block_lt_of_cell? W _ h.sz
  obtain ⟨v, hv, ho⟩ := h.row
  exact ⟨below_cell hb _ _ _ h.sz, (hb.frozen (p := ⟨kb, 1, none⟩) hlt).trans h.fz, ⟨v, below_cell hb _ _ _ hv, pw_own_below ho hb⟩, h.pos, h.most⟩
def rgetF (L : List Ent) (n : Nat) (key : Int) : Ent × Bool :=
  match atI L n key with
  | none => (zeroEnt, false)
  | some i => if (L.getD i zeroEnt).key == key then (L.getD i zeroEnt, true) else (zeroEnt, false)
theorem atI_lt {L : List Ent} {n i : Nat} {key : Int} (h : atI L n key = some i) : i < L.length := by
  unfold atI at h
  rw [List.findIdx?_eq_some_iff_getElem] at h
  exact h.1
set_option maxRecDepth 100000 in
theorem rget_walk (w : World) (kb n : Nat) (L : List Ent) (key : Int) (h : RefAt w kb n L) (hk : 0 ≤ key) (hp : ∀ e ∈ L, 0 ≤ e.key) (hl : L.length ≤ 60) :
  Calls Try.prog 13 #[.pointer (some ⟨kb, 0, none⟩), .int .u64 key] w fun e w' => e = .returned (.tuple #[entV (rgetF L n key).1, .bool (rgetF L n key).2]) ∧ Below w.heap.size w w' := by
  have HA := Aside0.mk (at_walk _ kb n L key (h.below (below_alloc (Below.refl w.heap.size w) (.cells #[.int .u64 0, .int .i64 0, .int .i64 0, .int .i64 0, .int .i64 0, .int .i64 0] 36))) hk hp hl)
  obtain ⟨A, cap, hc, _, hx⟩ := (h.below (below_alloc (Below.refl w.heap.size w) (.cells #[.int .u64 0, .int .i64 0, .int .i64 0, .int .i64 0, .int .i64 0, .int .i64 0] 36))).cells
  have HX := Aside0.mk hx
  have HL := Aside0.mk hl
  clear hx h hp hk hl
  cases hq : atI L n key with
  | none =>
    have HV := Aside0.mk (show atV L n key = -1 by unfold atV; rw [hq])
    rw [show rgetF L n key = (zeroEnt, false) by unfold rgetF; rw [hq]]
    clear hq
    go_enter Try.func13, Try.ntmps13
    go_wp2_with fail
    refine HA.out.mono ?_
    rw [HV.out]
    rintro y w1 ⟨rfl, rfl⟩
    go_wp2_with fail
    go_returns
    exact ⟨rfl, by (repeat' (first | (with_reducible exact Below.refl _ _) | (with_reducible refine pw_below_drewN ?_ _) | (with_reducible refine below_alloc ?_ _) | (with_reducible refine Below.drew ?_) | (with_reducible refine Below.setCell ?_ ?_ _) | (simp; done)))⟩
  | some i =>
    have hlt := atI_lt hq
    have HV := Aside0.mk (show atV L n key = i by unfold atV; rw [hq])
    have hd : L.getD i zeroEnt = L[i] := by simp [hlt]
    obtain ⟨g, rfl, _, hE⟩ := HX.out.resolve_left (fun h => by rw [h] at hlt; simp at hlt)
    obtain ⟨e0, e1, e2, e3, e4, e5, e6⟩ := hE i hlt
    have b1 : decide ((i : Int) < 0) = false := decide_eq_false (by omega)
    have b2 : 0 ≤ (i : Int) := by omega
    have b3 : (i : Int) < (L.length : Int) := by omega
    clear hE
    cases hx : (L[i].key == key)
    · rw [show rgetF L n key = (zeroEnt, false) by unfold rgetF; rw [hq]; simp only [hd]; rw [hx]; rfl]
      have hx0 : (L[i].key != key) = true := by simp [bne, hx]
      clear hq hd hx
      go_enter Try.func13, Try.ntmps13
      go_wp2_with fail
      refine HA.out.mono ?_
      rw [HV.out]
      rintro y w1 ⟨rfl, rfl⟩
      go_wp2_with fail
      go_returns
      exact ⟨rfl, by (repeat' (first | (with_reducible exact Below.refl _ _) | (with_reducible refine pw_below_drewN ?_ _) | (with_reducible refine below_alloc ?_ _) | (with_reducible refine Below.drew ?_) | (with_reducible refine Below.setCell ?_ ?_ _) | (simp; done)))⟩
    · rw [show rgetF L n key = (L[i], true) by unfold rgetF; rw [hq]; simp only [hd]; rw [hx]; rfl]
      have hx0 : (L[i].key != key) = false := by simp [bne, hx]
      clear hq hd hx
      go_enter Try.func13, Try.ntmps13
      go_wp2_with fail
      refine HA.out.mono ?_
      rw [HV.out]
      rintro y w1 ⟨rfl, rfl⟩
      go_wp2_with fail
      go_returns
      exact ⟨rfl, by (repeat' (first | (with_reducible exact Below.refl _ _) | (with_reducible refine pw_below_drewN ?_ _) | (with_reducible refine below_alloc ?_ _) | (with_reducible refine Below.drew ?_) | (with_reducible refine Below.setCell ?_ ?_ _) | (simp; done)))⟩
def ruseF (g : Ent × Bool) (depth low high : Int) : Int × Bool :=
  if g.2 = false ∨ g.1.depth < depth then (0, false) else
  if g.1.sure = 0 ∨ (g.1.sure = 1 ∧ high ≤ g.1.score) ∨ (g.1.sure = 2 ∧ g.1.score ≤ low) then (g.1.score, true) else (0, false)
theorem ruse_walk (w : World) (p : Value) (key depth low high : Int) (g : Ent) (is : Bool)
  (hg : ∀ W, Below w.heap.size w W → Calls Try.prog 13 #[p, .int .u64 key] W fun e w' => e = .returned (.tuple #[entV g, .bool is]) ∧ Below W.heap.size W w') :
  Calls Try.prog 15 #[p, .int .u64 key, .int .i64 depth, .int .i64 low, .int .i64 high] w fun e w' => e = .returned (.tuple #[.int .i64 (ruseF (g, is) depth low high).1, .bool (ruseF (g, is) depth low high).2]) ∧ Below w.heap.size w w' := by
  have HG := Aside0.mk hg
  clear hg
  go_enter Try.func15, Try.ntmps15
  go_wp2_with fail
  refine (HG.out _ (by (repeat' (first | (with_reducible exact Below.refl _ _) | (with_reducible refine pw_below_drewN ?_ _) | (with_reducible refine below_alloc ?_ _) | (with_reducible refine Below.drew ?_) | (with_reducible refine Below.setCell ?_ ?_ _) | (simp; done))))).mono ?_
  rintro e w1 ⟨rfl, hb⟩
  have HB := Aside0.mk hb
  clear hb
  go_wp2_with fail
  clear HG
  all_goals
    go_returns
    refine ⟨ret_ib ?_, (by
      have hb := HB.out
      exact hb.trans (below_alloc (Below.refl _ _) _ |>.mono hb.size))⟩
    clear HB
    unfold ruseF
    first | (simp_all; done) | (simp_all; omega) | skip
end Go.Proofs.Ytojklhlcoakieaa.P
