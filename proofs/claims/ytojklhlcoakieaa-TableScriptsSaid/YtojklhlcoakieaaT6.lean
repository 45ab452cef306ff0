/- Walk of the laws' live. -/
import Derived.Test.YtojklhlcoakieaaT5
namespace Go.Proofs.Ytojklhlcoakieaa.P
open Go.RowKit Go.Lib Go.Proofs.YtojklhlcoakieaaW.PrintWords Go.Proofs.YtojklhlcoakieaaW.PrintLast Go.Proofs.YtojklhlcoakieaaW.PrintMore
set_option linter.unusedVariables false
set_option linter.unusedSimpArgs false
theorem new_small (w : World) (n : Int) (h : decide (n < 1) = true) :
  Calls Try.prog 8 #[.int .i64 n] w fun e w' => e = .returned (.tuple #[.pointer none, .int .i64 1]) ∧ w' = w := by
  go_enter Try.func8, Try.ntmps8
  go_wp2
  go_ret2
  exact ⟨rfl, rfl⟩
theorem new_great (w : World) (n : Int) (h : decide (n < 1) = false) (h2 : decide (4096 < n) = true) :
  Calls Try.prog 8 #[.int .i64 n] w fun e w' => e = .returned (.tuple #[.pointer none, .int .i64 1]) ∧ w' = w := by
  go_enter Try.func8, Try.ntmps8
  go_wp2
  go_ret2
  exact ⟨rfl, rfl⟩
theorem Turned.cell {b sb : Nat} {w w' : World} (h : Turned b sb w w') (k j : Nat) (hk : k < w.heap.size) (h1 : k ≠ b) (h2 : k ≠ sb) : w'.cell? ⟨k, j, none⟩ = w.cell? ⟨k, j, none⟩ := by
  simp only [World.cell?, h.block k hk h1 h2]
/-- What live knows between its calls: the table, what lies below, the entry that it got. -/
structure LiveAt (w0 W : World) (x : Nat) (T : Nat → Option Ent) (c : Nat) : Prop where
  tab : TabAt W (w0.heap.size + 1) w0.heap.size 2 T c
  bel : Below w0.heap.size w0 W
  cell : W.cell? ⟨x, 2, none⟩ = some (.int .i64 7)
  lt : x < W.heap.size
  gt : w0.heap.size + 1 < x
theorem LiveAt.below {w0 W W' : World} {x c : Nat} {T : Nat → Option Ent} (h : LiveAt w0 W x T c) (hb : Below W.heap.size W W') : LiveAt w0 W' x T c :=
  ⟨h.tab.below hb, h.bel.trans (hb.mono h.bel.size), (hb.cell (p := ⟨x, 2, none⟩) h.lt).trans h.cell, Nat.lt_of_lt_of_le h.lt hb.size, h.gt⟩
theorem LiveAt.turned {w0 W W' : World} {x c c' : Nat} {T T' : Nat → Option Ent} (h : LiveAt w0 W x T c) (ht : TabAt W' (w0.heap.size + 1) w0.heap.size 2 T' c') (hb : Turned (w0.heap.size + 1) w0.heap.size W W') : LiveAt w0 W' x T' c' :=
  ⟨ht, h.bel.trans (hb.below (by omega) (by omega) h.bel.size), (hb.cell x 2 h.lt (by have := h.gt; omega) (by have := h.gt; omega)).trans h.cell, Nat.lt_of_lt_of_le h.lt hb.size, h.gt⟩
set_option maxHeartbeats 1000000 in
theorem live_walk (w : World) :
  Calls Try.prog 7 #[] w fun e w' => e = .returned (.bool true) ∧ Below w.heap.size w w' := by
  go_enter Try.func7, Try.ntmps7
  go_wp2_with fail
  refine (new_walk w 2 (by decide) (by decide)).mono ?_
  rintro e w1 ⟨rfl, ht, hb⟩
  have H := Aside0.mk ht
  have HB := Aside0.mk hb
  clear ht hb
  go_wp2_with fail
  refine (new_small w1 0 (by decide)).mono ?_
  rintro e w2 ⟨rfl, rfl⟩
  have hz := HB.out.size
  have stepT : ∀ {W W' : World}, Below w.heap.size w W → Turned (w.heap.size + 1) w.heap.size W W' → Below w.heap.size w W' := fun h1 h2 => h1.trans (h2.below (by omega) (by omega) h1.size)
  have HS := Aside0.mk @stepT
  clear stepT hz
  go_wp2_with fail
  have hp := put_walk w2 _ _ 2 0 _ ⟨4, 3, 7, 0, 0, 0⟩ (by decide) H.out (by decide)
  refine hp.mono ?_
  clear hp
  rintro e w3 ⟨rfl, ht, hb⟩
  have H3 := Aside0.mk (show TabAt w3 (w.heap.size + 1) w.heap.size 2 (putT (fun _ => none) 0 ⟨4, 3, 7, 0, 0, 0⟩) 1 from ht)
  have HB3 := Aside0.mk (HS.out HB.out hb)
  clear ht hb
  rw [show (putF (fun _ => none) 2 0 ⟨4, 3, 7, 0, 0, 0⟩).1 = true from rfl]
  go_wp2_with fail
  have hp := put_walk w3 _ _ 2 1 _ ⟨6, 2, 0, 0, 0, 0⟩ (by decide) H3.out (by decide)
  refine hp.mono ?_
  clear hp
  rintro e w4 ⟨rfl, ht, hb⟩
  have H4 := Aside0.mk (show TabAt w4 (w.heap.size + 1) w.heap.size 2 (putT (fun _ => none) 0 ⟨4, 3, 7, 0, 0, 0⟩) 1 from ht)
  have HB4 := Aside0.mk (HS.out HB3.out hb)
  clear ht hb
  rw [show (putF (putT (fun _ => none) 0 ⟨4, 3, 7, 0, 0, 0⟩) 2 1 ⟨6, 2, 0, 0, 0, 0⟩).1 = false from rfl]
  go_wp2_with fail
  refine (get_walk w4 _ _ 2 1 _ 4 (by decide) H4.out).mono ?_
  rintro e w5 ⟨rfl, hb⟩
  rw [show getF (putT (fun _ => none) 0 ⟨4, 3, 7, 0, 0, 0⟩) 2 4 = (⟨4, 3, 7, 0, 0, 0⟩, true) from rfl]
  have H5 := Aside0.mk (H4.out.below hb)
  have HB5 := Aside0.mk (HB4.out.trans (hb.mono HB4.out.size))
  clear hb
  go_wp2_with fail
  have hE : Below w5.heap.size w5 (w5.alloc (.cells #[.int .u64 4, .int .i64 3, .int .i64 7, .int .i64 0, .int .i64 0, .int .i64 0] 40)) := below_alloc (Below.refl _ _) _
  have L := Aside0.mk (show LiveAt w (w5.alloc (.cells #[.int .u64 4, .int .i64 3, .int .i64 7, .int .i64 0, .int .i64 0, .int .i64 0] 40)) w5.heap.size (putT (fun _ => none) 0 ⟨4, 3, 7, 0, 0, 0⟩) 1 from ⟨H5.out.below hE, HB5.out.trans (hE.mono HB5.out.size), by simp, by simp, H5.out.lt.1⟩)
  clear hE H H3 H4 H5 HB HB3 HB4 HB5 HS
  refine (get_walk _ _ _ 2 1 _ 6 (by decide) L.out.tab).mono ?_
  rintro e w6 ⟨rfl, hb⟩
  rw [show getF (putT (fun _ => none) 0 ⟨4, 3, 7, 0, 0, 0⟩) 2 6 = (zeroEnt, false) from rfl]
  have L6 := Aside0.mk (L.out.below hb)
  clear hb L
  go_wp2_with fail
  have L := Aside0.mk (L6.out.below (show Below w6.heap.size w6 (w6.alloc (.cells #[.int .u64 0, .int .i64 0, .int .i64 0, .int .i64 0, .int .i64 0, .int .i64 0] 40)) from below_alloc (Below.refl _ _) _))
  clear L6
  refine (use_walk _ _ 4 3 0 0 ⟨4, 3, 7, 0, 0, 0⟩ true (fun W hW => get_walk W _ _ 2 1 _ 4 (by decide) (L.out.tab.below hW))).mono ?_
  rintro e w7 ⟨rfl, hb⟩
  rw [show useF ((⟨4, 3, 7, 0, 0, 0⟩ : Ent), true) 3 0 0 = (7, true) from by decide]
  have L7 := Aside0.mk (L.out.below hb)
  clear hb L
  go_wp2_with fail
  refine (use_walk w7 _ 4 4 0 0 ⟨4, 3, 7, 0, 0, 0⟩ true (fun W hW => get_walk W _ _ 2 1 _ 4 (by decide) (L7.out.tab.below hW))).mono ?_
  rintro e w8 ⟨rfl, hb⟩
  rw [show useF ((⟨4, 3, 7, 0, 0, 0⟩ : Ent), true) 4 0 0 = (0, false) from by decide]
  have L8 := Aside0.mk (L7.out.below hb)
  clear hb L7
  go_wp2_with fail
  refine (count_walk w8 _ _ 2 1 _ L8.out.tab).mono ?_
  rintro e w9 ⟨rfl, ⟨q, rfl⟩⟩
  go_wp2_with fail
  refine (clear_walk _ _ _ 2 1 _ (L8.out.tab.drewN q)).mono ?_
  rintro e w10 ⟨rfl, ht, hb⟩
  have L10 := Aside0.mk ((L8.out.below (pw_below_drewN (Below.refl _ _) q)).turned ht hb)
  have hx10 := L10.out.cell
  clear ht hb L8
  go_wp2_with fail
  refine (count_walk w10 _ _ 2 0 _ L10.out.tab).mono ?_
  rintro e w11 ⟨rfl, ⟨q2, rfl⟩⟩
  go_wp2_with fail
  go_ret
  exact ⟨rfl, pw_below_drewN L10.out.bel _⟩
end Go.Proofs.Ytojklhlcoakieaa.P
