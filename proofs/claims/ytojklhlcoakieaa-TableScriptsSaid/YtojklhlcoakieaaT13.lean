/- Walk of the reference's Put. -/
import Derived.Test.YtojklhlcoakieaaT12
import Derived.Deep.RegionLaw
namespace Go.Proofs.Ytojklhlcoakieaa.P
open Go.RowKit Go.Lib Go.Proofs.YtojklhlcoakieaaW.PrintWords Go.Proofs.YtojklhlcoakieaaW.PrintLast Go.Proofs.YtojklhlcoakieaaW.PrintMore
set_option linter.unusedVariables false
set_option linter.unusedSimpArgs false
def rputF (L : List Ent) (n : Nat) (e : Ent) : Bool × List Ent :=
  if decide (e.sure < 0) || decide (2 < e.sure) then (false, L) else
  match atI L n e.key with
  | none => (true, L ++ [e])
  | some i => if !((L.getD i zeroEnt).key == e.key) && decide (e.depth < (L.getD i zeroEnt).depth) then (false, L) else (true, L.set i e)
theorem info_ref : (Try.prog.info? 36).map (fun i => (i.zero, i.size, i.bytes)) = some (some (.agg #[.int .u64 0, .int .i64 0, .int .i64 0, .int .i64 0, .int .i64 0, .int .i64 0]), 6, 48) := by kernel_rfl
/-- The box of an entry, and the table beside it. -/
theorem RefAt.box {W : World} {kb n : Nat} {L : List Ent} (h : RefAt W kb n L) (o : Obj) : RefAt (W.alloc o) kb n L := h.below (below_alloc (Below.refl _ _) _)
theorem RefAt.drewN {W : World} {kb n : Nat} {L : List Ent} (h : RefAt W kb n L) (q : Nat) : RefAt (W.drewN q) kb n L := ⟨h.sz, h.fz, h.row, h.pos, h.most⟩
theorem RefAt.drew {W : World} {kb n : Nat} {L : List Ent} (h : RefAt W kb n L) : RefAt W.drew kb n L := ⟨h.sz, h.fz, h.row, h.pos, h.most⟩
theorem RefAt.frow {W : World} {kb n : Nat} {L : List Ent} (h : RefAt W kb n L) (g len cap : Nat) (hv : W.cell? ⟨kb, 1, none⟩ = some (.slice (some ⟨g, 0, none⟩) len cap)) : ∀ k, W.frozen? ⟨g, k, none⟩ = false := by
  obtain ⟨v, hv2, ho⟩ := h.row
  rw [hv] at hv2
  obtain rfl := Option.some.inj hv2
  obtain ⟨hl, ⟨h0, _⟩ | ⟨g', cap', cur, hv, hb, hg, hn, hc, hs, ht⟩⟩ := ho
  · simp at h0
  · simp only [Value.slice.injEq, Option.some.injEq, Addr.mk.injEq, and_true, true_and] at hv
    obtain ⟨rfl, rfl, rfl⟩ := hv
    intro k
    simp [World.frozen?, hg]
/-- An entry is written over another. -/
theorem RefAt.store {W : World} {kb n g cap : Nat} {L : List Ent} (h : RefAt W kb n L) (hv : W.cell? ⟨kb, 1, none⟩ = some (.slice (some ⟨g, 0, none⟩) L.length cap)) (i : Nat) (hi : i < L.length) (e : Ent) :
    RefAt ((((((W.setCell ⟨g, i * 6, none⟩ (.int .u64 e.key)).setCell ⟨g, i * 6 + 1, none⟩ (.int .i64 e.depth)).setCell ⟨g, i * 6 + 2, none⟩ (.int .i64 e.score)).setCell ⟨g, i * 6 + 3, none⟩ (.int .i64 e.sure)).setCell ⟨g, i * 6 + 4, none⟩ (.int .i64 e.frm)).setCell ⟨g, i * 6 + 5, none⟩ (.int .i64 e.dest)) kb n (L.set i e) := by
  obtain ⟨v, hv2, ho⟩ := h.row
  have hv3 := hv2
  rw [hv] at hv3
  obtain rfl := Option.some.inj hv3
  have hgk : kb < g := own_base ho g rfl
  have hl := flatE_len L
  have ne : ∀ j k, (⟨g, k, none⟩ : Addr) ≠ ⟨kb, j, none⟩ := fun j k he => by injection he with e1; omega
  have c : ∀ (V : World) (j k : Nat) (x : Value), (V.setCell ⟨g, k, none⟩ x).cell? ⟨kb, j, none⟩ = V.cell? ⟨kb, j, none⟩ := fun V j k x => World.cell?_setCell_other _ _ _ _ (ne j k)
  refine ⟨by simp only [c]; exact h.sz, by simp only [World.frozen?_setCell]; exact h.fz, ⟨_, by simp only [c]; exact hv, ?_⟩, h.pos, h.most⟩
  have o1 := own_put1 ho (i * 6) (by omega) (.int .u64 e.key)
  have o2 := own_put1 o1 (i * 6 + 1) (by simp; omega) (.int .i64 e.depth)
  have o3 := own_put1 o2 (i * 6 + 2) (by simp; omega) (.int .i64 e.score)
  have o4 := own_put1 o3 (i * 6 + 3) (by simp; omega) (.int .i64 e.sure)
  have o5 := own_put1 o4 (i * 6 + 4) (by simp; omega) (.int .i64 e.frm)
  have o6 := own_put1 o5 (i * 6 + 5) (by simp; omega) (.int .i64 e.dest)
  rw [flatE_set L i e hi] at o6
  rw [List.length_set]
  exact o6
theorem one_size (w : World) (A : Obj) : (w.alloc A).heap.size = w.heap.size + 1 := by simp
theorem two_size (w : World) (A B : Obj) (k : Nat) : (((w.alloc A).drewN k).alloc B).heap.size = w.heap.size + 2 := by
  rw [one_size]; show (w.alloc A).heap.size + 1 = _; rw [one_size]
theorem news_box (w : World) (A B : Obj) (k : Nat) : (((w.alloc A).drewN k).alloc B).heap[w.heap.size + 1]? = some B := by
  have h := heap_alloc_new ((w.alloc A).drewN k) B
  rw [show ((w.alloc A).drewN k).heap.size = w.heap.size + 1 from one_size w A] at h
  exact h
theorem far_box {w w1 : World} {A B : Obj} {k : Nat} {row : Option Nat} (hg : (((w.alloc A).drewN k).alloc B).grownBy w1 row) (b o : Nat) (v : Value) (hb : b ≤ w.heap.size) (hne : some b ≠ row) (h : (w.alloc A).cell? ⟨b, o, none⟩ = some v) : w1.cell? ⟨b, o, none⟩ = some v := by
  refine (hg.cell_far ⟨b, o, none⟩ (by show b < _; rw [two_size]; omega) hne).trans ?_
  exact below_cell (below_alloc (pw_below_drewN (Below.refl _ _) k) B) _ _ _ h
theorem far_frozen {w w1 : World} {A B : Obj} {k : Nat} {row : Option Nat} (hg : (((w.alloc A).drewN k).alloc B).grownBy w1 row) (b o : Nat) (hb : b ≤ w.heap.size) (hne : some b ≠ row) (h : (w.alloc A).frozen? ⟨b, o, none⟩ = false) : w1.frozen? ⟨b, o, none⟩ = false := by
  refine (hg.frozen_far ⟨b, o, none⟩ (by show b < _; rw [two_size]; omega) hne).trans ?_
  refine ((below_alloc (pw_below_drewN (Below.refl (w.alloc A).heap.size (w.alloc A)) k) B).frozen (p := ⟨b, o, none⟩) (by show b < _; rw [one_size]; omega)).trans h
theorem store_below {w W : World} {kb g o : Nat} (h : Below kb w W) (hg : kb ≤ g) (a b c d e f : Value) :
    Below kb w ((((((W.setCell ⟨g, o, none⟩ a).setCell ⟨g, o + 1, none⟩ b).setCell ⟨g, o + 2, none⟩ c).setCell ⟨g, o + 3, none⟩ d).setCell ⟨g, o + 4, none⟩ e).setCell ⟨g, o + 5, none⟩ f) :=
  (((((h.setCell hg _).setCell hg _).setCell hg _).setCell hg _).setCell hg _).setCell hg _
/-- All blocks but the table's and its row's stay. -/
def RKept (kb : Nat) (w w' : World) : Prop := ∀ v, w.cell? ⟨kb, 1, none⟩ = some v → ∀ k, k < w.heap.size → k ≠ kb → some k ≠ v.ownBlock → w'.heap[k]? = w.heap[k]?
theorem RKept.below {kb : Nat} {w w' : World} (h : Below w.heap.size w w') : RKept kb w w' := fun _ _ k hk _ _ => h.block k hk
theorem RKept.store {kb g len cap o : Nat} {w W : World} (h : Below w.heap.size w W) (hc : w.cell? ⟨kb, 1, none⟩ = some (.slice (some ⟨g, 0, none⟩) len cap)) (a b c d e f : Value) :
    RKept kb w ((((((W.setCell ⟨g, o, none⟩ a).setCell ⟨g, o + 1, none⟩ b).setCell ⟨g, o + 2, none⟩ c).setCell ⟨g, o + 3, none⟩ d).setCell ⟨g, o + 4, none⟩ e).setCell ⟨g, o + 5, none⟩ f) := by
  intro v hv k hk h1 h2
  rw [hc] at hv
  obtain rfl := Option.some.inj hv
  have hg : k ≠ g := fun e => h2 (by rw [e]; rfl)
  rw [Below.heap_setCell _ _ _ _ hg, Below.heap_setCell _ _ _ _ hg, Below.heap_setCell _ _ _ _ hg, Below.heap_setCell _ _ _ _ hg, Below.heap_setCell _ _ _ _ hg, Below.heap_setCell _ _ _ _ hg]
  exact h.block k hk
theorem RKept.appended {w : World} {A B : Obj} {q kb : Nat} {sl : Value} {w1 : World} (hc : w.cell? ⟨kb, 1, none⟩ = some sl) (hg : (((w.alloc A).drewN q).alloc B).grownBy w1 sl.ownBlock) (u : Value) : RKept kb w (w1.setCell ⟨kb, 1, none⟩ u) := by
  intro v hv k hk h1 h2
  rw [hc] at hv
  obtain rfl := Option.some.inj hv
  rw [Below.heap_setCell _ _ _ _ h1, hg.block k (by rw [two_size]; omega) h2]
  exact (below_alloc (pw_below_drewN (below_alloc (Below.refl w.heap.size w) A) q) B).block k hk
theorem RefAt.appended {w : World} {A B : Obj} {q kb n : Nat} {L : List Ent} {e : Ent} {sl : Value} {w1 : World} {gg cap1 : Nat} (hR : RefAt (w.alloc A) kb n L) (hkb : kb < w.heap.size) (hob : some kb ≠ sl.ownBlock) (hob2 : ∀ k, sl.ownBlock = some k → kb ≤ k)
    (hg : (((w.alloc A).drewN q).alloc B).grownBy w1 sl.ownBlock) (hv : w1.cell? ⟨kb, 1, none⟩ = some sl) (hf : w1.frozen? ⟨kb, 1, none⟩ = false) (ho : w1.ownsRow (kb + 1) 36 6 (.slice (some ⟨gg, 0, none⟩) (L.length + 1) cap1) (L.length + 1) (flatE L ++ entC e)) :
    RefAt (w1.setCell ⟨kb, 1, none⟩ (.slice (some ⟨gg, 0, none⟩) (L.length + 1) cap1)) kb n (L ++ [e]) ∧ Below kb w (w1.setCell ⟨kb, 1, none⟩ (.slice (some ⟨gg, 0, none⟩) (L.length + 1) cap1)) := by
  have hgg := own_base ho gg rfl
  refine ⟨⟨?_, ?_, ⟨_, World.cell?_setCell_same' _ _ _ (by rw [hv]; rfl), ?_⟩, hR.pos, hR.most⟩, ?_⟩
  · rw [World.cell?_setCell_other _ _ _ _ (by intro he; injection he with _ e2; omega)]
    exact far_box hg kb 0 _ (by omega) hob hR.sz
  · rw [World.frozen?_setCell]; exact hf
  · rw [flatE_append, List.length_append]
    exact own_setCell ho (by intro he; simp [Value.ownBlock] at he; omega) _
  · refine Below.setCell (Below.grown (B := kb) (below_alloc (pw_below_drewN (below_alloc (Below.refl w.heap.size w) A) q) B |>.mono (by omega)) hg (by rw [two_size]; omega) hob2) (Nat.le_refl _) _
set_option maxRecDepth 100000 in
set_option maxHeartbeats 4000000 in
theorem rput_walk (w : World) (kb n : Nat) (L : List Ent) (e : Ent) (h : RefAt w kb n L) (hk : 0 ≤ e.key) (hp : ∀ e ∈ L, 0 ≤ e.key) (hl : L.length ≤ 60) :
  Calls Try.prog 11 #[.pointer (some ⟨kb, 0, none⟩), entV e] w fun x w' => x = .returned (.bool (rputF L n e).1) ∧ RefAt w' kb n (rputF L n e).2 ∧ Below kb w w' ∧ RKept kb w w' := by
  have hw := World.block_lt_of_cell? w _ h.sz
  have HW := Aside0.mk hw
  have hR := h.box (.cells #[.int .u64 e.key, .int .i64 e.depth, .int .i64 e.score, .int .i64 e.sure, .int .i64 e.frm, .int .i64 e.dest] 36)
  have HA := Aside0.mk (at_walk _ kb n L e.key hR hk hp hl)
  obtain ⟨A, cap, hc0, ho0, _⟩ := h.cells
  have hc := below_cell (below_alloc (Below.refl w.heap.size w) (.cells #[.int .u64 e.key, .int .i64 e.depth, .int .i64 e.score, .int .i64 e.sure, .int .i64 e.frm, .int .i64 e.dest] 36)) _ _ _ hc0
  have hx := hR.cells
  have hfz := hR.fz
  have HO0 := Aside0.mk ho0
  have HC0 := Aside0.mk hc0
  have HOB := Aside0.mk (show some kb ≠ (Value.slice A L.length cap).ownBlock from fun he => by have := own_base ho0 kb he.symm; omega)
  have HOC := Aside0.mk (show some w.heap.size ≠ (Value.slice A L.length cap).ownBlock from fun he => by have := own_lt ho0 _ he.symm; omega)
  have HR := Aside0.mk hR
  have HX := Aside0.mk hx
  have HL := Aside0.mk hl
  have hkb : kb < w.heap.size := hw
  have HE0 := Aside0.mk (show (w.alloc (.cells #[.int .u64 e.key, .int .i64 e.depth, .int .i64 e.score, .int .i64 e.sure, .int .i64 e.frm, .int .i64 e.dest] 36)).cell? ⟨w.heap.size, 0, none⟩ = some (.int .u64 e.key) by simp)
  have HE1 := Aside0.mk (show (w.alloc (.cells #[.int .u64 e.key, .int .i64 e.depth, .int .i64 e.score, .int .i64 e.sure, .int .i64 e.frm, .int .i64 e.dest] 36)).cell? ⟨w.heap.size, 1, none⟩ = some (.int .i64 e.depth) by simp)
  have HE2 := Aside0.mk (show (w.alloc (.cells #[.int .u64 e.key, .int .i64 e.depth, .int .i64 e.score, .int .i64 e.sure, .int .i64 e.frm, .int .i64 e.dest] 36)).cell? ⟨w.heap.size, 2, none⟩ = some (.int .i64 e.score) by simp)
  have HE3 := Aside0.mk (show (w.alloc (.cells #[.int .u64 e.key, .int .i64 e.depth, .int .i64 e.score, .int .i64 e.sure, .int .i64 e.frm, .int .i64 e.dest] 36)).cell? ⟨w.heap.size, 3, none⟩ = some (.int .i64 e.sure) by simp)
  have HE4 := Aside0.mk (show (w.alloc (.cells #[.int .u64 e.key, .int .i64 e.depth, .int .i64 e.score, .int .i64 e.sure, .int .i64 e.frm, .int .i64 e.dest] 36)).cell? ⟨w.heap.size, 4, none⟩ = some (.int .i64 e.frm) by simp)
  have HE5 := Aside0.mk (show (w.alloc (.cells #[.int .u64 e.key, .int .i64 e.depth, .int .i64 e.score, .int .i64 e.sure, .int .i64 e.frm, .int .i64 e.dest] 36)).cell? ⟨w.heap.size, 5, none⟩ = some (.int .i64 e.dest) by simp)
  have n1 : ¬ kb = w.heap.size := by omega
  have n2 : ¬ w.heap.size = kb := by omega
  clear hx h hp hk hl hR hw ho0 hc0
  cases s0 : decide (e.sure < 0)
  case true =>
    rw [show rputF L n e = (false, L) by unfold rputF; rw [s0]; rfl]
    go_enter Try.func11, Try.ntmps11
    go_wp2_with fail
    refine HA.out.mono ?_
    rintro y w1 ⟨rfl, rfl⟩
    go_wp2_with fail
    go_quiet (fail)
    go_wp2_with fail
    go_returns
    exact ⟨rfl, HR.out.drewN nq, (by (repeat' (first | (with_reducible exact Below.refl _ _) | (with_reducible refine pw_below_drewN ?_ _) | (with_reducible refine below_alloc ?_ _) | (with_reducible refine Below.drew ?_) | (with_reducible refine Below.setCell ?_ ?_ _) | (simp; done))) : Below w.heap.size w _).mono (by omega), RKept.below (by (repeat' (first | (with_reducible exact Below.refl _ _) | (with_reducible refine pw_below_drewN ?_ _) | (with_reducible refine below_alloc ?_ _) | (with_reducible refine Below.drew ?_) | (with_reducible refine Below.setCell ?_ ?_ _) | (simp; done))))⟩
  case false =>
  cases s1 : decide (2 < e.sure)
  case true =>
    rw [show rputF L n e = (false, L) by unfold rputF; rw [s0, s1]; rfl]
    go_enter Try.func11, Try.ntmps11
    go_wp2_with fail
    refine HA.out.mono ?_
    rintro y w1 ⟨rfl, rfl⟩
    go_wp2_with fail
    go_quiet (fail)
    go_wp2_with fail
    go_returns
    exact ⟨rfl, HR.out.drewN nq, (by (repeat' (first | (with_reducible exact Below.refl _ _) | (with_reducible refine pw_below_drewN ?_ _) | (with_reducible refine below_alloc ?_ _) | (with_reducible refine Below.drew ?_) | (with_reducible refine Below.setCell ?_ ?_ _) | (simp; done))) : Below w.heap.size w _).mono (by omega), RKept.below (by (repeat' (first | (with_reducible exact Below.refl _ _) | (with_reducible refine pw_below_drewN ?_ _) | (with_reducible refine below_alloc ?_ _) | (with_reducible refine Below.drew ?_) | (with_reducible refine Below.setCell ?_ ?_ _) | (simp; done))))⟩
  case false =>
  cases hq : atI L n e.key with
  | none =>
    have HV := Aside0.mk (show atV L n e.key = -1 by unfold atV; rw [hq])
    rw [show rputF L n e = (true, L ++ [e]) by unfold rputF; rw [s0, s1, hq]; rfl]
    clear hq
    obtain ⟨i0, hi0, hz0, hz1, hz2⟩ := info_parts info_ref
    have HZ := Aside0.mk (And.intro hi0 (And.intro hz0 (And.intro hz1 hz2)))
    clear hi0 hz0 hz1 hz2
    go_enter Try.func11, Try.ntmps11
    go_wp2_with fail
    refine HA.out.mono ?_
    rw [HV.out]
    rintro y w1 ⟨rfl, rfl⟩
    go_wp2_with fail
    go_quiet (fail)
    go_wp2_with fail
    go_region_law
      ((refine step_append_lies _ (by rfl) _ _ _ (by rfl) (kb + 1) 36 i0 _ 6 48 Try.underlying29 HZ.out.1 HZ.out.2.1 HZ.out.2.2.1 HZ.out.2.2.2 rfl (by omega) _ L.length (flatE L) (by rfl) (pw_own_below HO0.out (by (repeat' (first | (with_reducible exact Below.refl _ _) | (with_reducible refine pw_below_drewN ?_ _) | (with_reducible refine below_alloc ?_ _) | (with_reducible refine Below.drew ?_) | (with_reducible refine Below.setCell ?_ ?_ _) | (simp; done))))) ⟨w.heap.size + 1, 0, none⟩ 1 1 (entC e) (by rfl) (by rfl) (World.news_of_block (cs := #[.int .u64 e.key, .int .i64 e.depth, .int .i64 e.score, .int .i64 e.sure, .int .i64 e.frm, .int .i64 e.dest]) (t := 36) (fr := (0, 0)) (news_box _ _ _ _)) (by simp [Value.oneCell', entC]) (by omega) (by have := HL.out; unfold maxLen; omega) (by have := HL.out; omega) (by simp; omega) _ rfl ?_; intro gg cap1 w1 hown1 hgrow hat hlt; have HO1 := Aside0.mk hown1; have HGR := Aside0.mk hgrow; have HAT := Aside0.mk hat; have g0 := far_box hgrow kb 1 _ (by omega) HOB.out hc; have g1 := far_frozen hgrow kb 1 (by omega) HOB.out hfz; have f0 := far_box hgrow w.heap.size 0 _ (by omega) HOC.out HE0.out; have f1 := far_box hgrow w.heap.size 1 _ (by omega) HOC.out HE1.out; have f2 := far_box hgrow w.heap.size 2 _ (by omega) HOC.out HE2.out; have f3 := far_box hgrow w.heap.size 3 _ (by omega) HOC.out HE3.out; have f4 := far_box hgrow w.heap.size 4 _ (by omega) HOC.out HE4.out; have f5 := far_box hgrow w.heap.size 5 _ (by omega) HOC.out HE5.out; clear hown1 hgrow hat))
    all_goals
      go_wp2_with fail
      go_returns
      obtain ⟨r1, r2⟩ := HR.out.appended HW.out HOB.out (fun k hk => by have := own_base HO0.out k hk; omega) HGR.out g0 g1 HO1.out
      exact ⟨rfl, r1, r2, RKept.appended HC0.out HGR.out _⟩
  | some i =>
    have hlt := atI_lt hq
    have HV := Aside0.mk (show atV L n e.key = i by unfold atV; rw [hq])
    have hd : L.getD i zeroEnt = L[i] := by simp [hlt]
    obtain ⟨A', cap', hc', _, hx'⟩ := HX.out
    rw [hc] at hc'
    simp only [Option.some.injEq, Value.slice.injEq, true_and] at hc'
    obtain ⟨rfl, rfl⟩ := hc'
    obtain ⟨g, rfl, hgk, hE⟩ := hx'.resolve_left (fun h => by rw [h] at hlt; simp at hlt)
    obtain ⟨e0, e1, e2, e3, e4, e5, e6⟩ := hE i hlt
    have b1 : decide ((i : Int) < 0) = false := decide_eq_false (by omega)
    have b2 : 0 ≤ (i : Int) := by omega
    have b3 : (i : Int) < (L.length : Int) := by omega
    have n3 : ¬ g = kb := by omega
    have n4 : ¬ kb = g := by omega
    have n5 : ¬ g = w.heap.size := fun h => HOC.out (by rw [← h]; rfl)
    have n6 : ¬ w.heap.size = g := fun h => n5 h.symm
    have fzg := HR.out.frow g _ _ hc
    clear hE hx'
    cases hx : (L[i].key == e.key)
    case true =>
      rw [show rputF L n e = (true, L.set i e) by unfold rputF; rw [s0, s1, hq]; simp only [hd]; rw [hx]; rfl]
      have hx0 : (L[i].key != e.key) = false := by simp [bne, hx]
      clear hq hd hx
      go_enter Try.func11, Try.ntmps11
      go_wp2_with fail
      refine HA.out.mono ?_
      rw [HV.out]
      rintro y w1 ⟨rfl, rfl⟩
      go_wp2_with fail
      go_quiet (fail)
      go_wp2_with fail
      go_region_held3 (fun W => W.cell? ⟨kb, 1, none⟩ = some (.slice (some ⟨g, 0, none⟩) L.length cap) ∧ W.cell? ⟨w.heap.size, 0, none⟩ = some (.int .u64 e.key) ∧ W.cell? ⟨w.heap.size, 1, none⟩ = some (.int .i64 e.depth) ∧ W.cell? ⟨w.heap.size, 2, none⟩ = some (.int .i64 e.score) ∧ W.cell? ⟨w.heap.size, 3, none⟩ = some (.int .i64 e.sure) ∧ W.cell? ⟨w.heap.size, 4, none⟩ = some (.int .i64 e.frm) ∧ W.cell? ⟨w.heap.size, 5, none⟩ = some (.int .i64 e.dest))
        (go_keep) (fail)
      go_wp2_with fail
      go_returns
      exact ⟨rfl, (HR.out.drewN (nq + 1)).store hc i hlt e, store_below (pw_below_drewN ((below_alloc (Below.refl w.heap.size w) _).mono (by omega)) (nq + 1)) (by omega) _ _ _ _ _ _, RKept.store (by (repeat' (first | (with_reducible exact Below.refl _ _) | (with_reducible refine pw_below_drewN ?_ _) | (with_reducible refine below_alloc ?_ _) | (with_reducible refine Below.drew ?_) | (with_reducible refine Below.setCell ?_ ?_ _) | (simp; done)))) HC0.out _ _ _ _ _ _⟩
    case false =>
    cases x1 : decide (e.depth < L[i].depth)
    case false =>
      rw [show rputF L n e = (true, L.set i e) by unfold rputF; rw [s0, s1, hq]; simp only [hd]; rw [hx, x1]; rfl]
      have hx0 : (L[i].key != e.key) = true := by simp [bne, hx]
      clear hq hd hx
      go_enter Try.func11, Try.ntmps11
      go_wp2_with fail
      refine HA.out.mono ?_
      rw [HV.out]
      rintro y w1 ⟨rfl, rfl⟩
      go_wp2_with fail
      go_quiet (fail)
      go_wp2_with fail
      go_region_held3 (fun W => W.cell? ⟨kb, 1, none⟩ = some (.slice (some ⟨g, 0, none⟩) L.length cap) ∧ W.cell? ⟨w.heap.size, 0, none⟩ = some (.int .u64 e.key) ∧ W.cell? ⟨w.heap.size, 1, none⟩ = some (.int .i64 e.depth) ∧ W.cell? ⟨w.heap.size, 2, none⟩ = some (.int .i64 e.score) ∧ W.cell? ⟨w.heap.size, 3, none⟩ = some (.int .i64 e.sure) ∧ W.cell? ⟨w.heap.size, 4, none⟩ = some (.int .i64 e.frm) ∧ W.cell? ⟨w.heap.size, 5, none⟩ = some (.int .i64 e.dest))
        (go_keep) (fail)
      go_wp2_with fail
      go_returns
      exact ⟨rfl, (HR.out.drewN (nq + 1)).store hc i hlt e, store_below (pw_below_drewN ((below_alloc (Below.refl w.heap.size w) _).mono (by omega)) (nq + 1)) (by omega) _ _ _ _ _ _, RKept.store (by (repeat' (first | (with_reducible exact Below.refl _ _) | (with_reducible refine pw_below_drewN ?_ _) | (with_reducible refine below_alloc ?_ _) | (with_reducible refine Below.drew ?_) | (with_reducible refine Below.setCell ?_ ?_ _) | (simp; done)))) HC0.out _ _ _ _ _ _⟩
    case true =>
      rw [show rputF L n e = (false, L) by unfold rputF; rw [s0, s1, hq]; simp only [hd]; rw [hx, x1]; rfl]
      have hx0 : (L[i].key != e.key) = true := by simp [bne, hx]
      clear hq hd hx
      go_enter Try.func11, Try.ntmps11
      go_wp2_with fail
      refine HA.out.mono ?_
      rw [HV.out]
      rintro y w1 ⟨rfl, rfl⟩
      go_wp2_with fail
      go_quiet (fail)
      go_wp2_with fail
      go_returns
      exact ⟨rfl, HR.out.drewN nq, pw_below_drewN ((below_alloc (Below.refl w.heap.size w) _).mono (by omega)) nq, RKept.below (by (repeat' (first | (with_reducible exact Below.refl _ _) | (with_reducible refine pw_below_drewN ?_ _) | (with_reducible refine below_alloc ?_ _) | (with_reducible refine Below.drew ?_) | (with_reducible refine Below.setCell ?_ ?_ _) | (simp; done))))⟩
end Go.Proofs.Ytojklhlcoakieaa.P
