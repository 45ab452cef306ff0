/- Walks of the table's methods. -/
import Derived.Test.YtojklhlcoakieaaT1
import Derived.Handy
namespace Go.Proofs.Ytojklhlcoakieaa.P
open Go.RowKit Go.Lib Go.Proofs.YtojklhlcoakieaaW.PrintWords Go.Proofs.YtojklhlcoakieaaW.PrintLast Go.Proofs.YtojklhlcoakieaaW.PrintMore
set_option linter.unusedVariables false
set_option linter.unusedSimpArgs false
theorem count_walk (w : World) (b sb n c : Nat) (T : Nat → Option Ent) (h : TabAt w b sb n T c) :
  Calls Try.prog 17 #[.pointer (some ⟨b, 0, none⟩)] w fun e w' => e = .returned (.int .i64 (c : Int)) ∧ Drawn0 w w' := by
  have h1 := h.cnt
  go_enter Try.func17, Try.ntmps17
  go_wp2
  go_ret
  exact ⟨rfl, ⟨0, rfl⟩⟩
theorem count_nil (w : World) :
  Calls Try.prog 17 #[.pointer none] w fun e w' => e = .returned (.int .i64 0) ∧ Drawn0 w w' := by
  go_enter Try.func17, Try.ntmps17
  go_wp2
  go_ret
  exact ⟨rfl, ⟨0, rfl⟩⟩
/-- The number of a key's slot. -/
def slotN (key : Int) (n : Nat) : Nat := (key.tmod n).toNat
theorem slotN_lt {key : Int} {n : Nat} (hk : 0 ≤ key) (hn : 0 < n) : slotN key n < n := by
  have h1 := Int.tmod_lt_of_pos key (b := (n : Int)) (by omega)
  have h2 := Int.tmod_nonneg (n : Int) hk
  unfold slotN; omega
theorem TabAt.below {W W' : World} {b sb n c : Nat} {T : Nat → Option Ent} (h : TabAt W b sb n T c) (hb : Below W.heap.size W W') : TabAt W' b sb n T c := by
  have hlb : b < W.heap.size := World.block_lt_of_cell? W _ h.ptr
  have hls : sb < W.heap.size := by
    have e := h.cells 0 0 h.pos (by omega)
    obtain ⟨v, hv⟩ : ∃ v, (slotC (T 0))[0]? = some v := ⟨_, List.getElem?_eq_getElem (by rw [slotC_len]; omega)⟩
    rw [hv] at e
    exact World.block_lt_of_cell? W _ e
  exact ⟨(hb.cell (p := ⟨b, 0, none⟩) hlb).trans h.ptr, (hb.cell (p := ⟨b, 1, none⟩) hlb).trans h.cnt, (hb.frozen (p := ⟨b, 1, none⟩) hlb).trans h.fz, fun i j hi hj => (hb.cell (p := ⟨sb, i * 7 + j, none⟩) hls).trans (h.cells i j hi hj), fun i => (hb.frozen (p := ⟨sb, i, none⟩) hls).trans (h.fzs i), h.ne, h.pos, h.most⟩
/-- The slot of a key, its number a letter. -/
theorem slot_at {w : World} {b sb n c : Nat} {T : Nat → Option Ent} {key : Int} (hk : 0 ≤ key) (h : TabAt w b sb n T c) (i : Nat) (hi : slotN key n = i) :
  Calls Try.prog 18 #[.pointer (some ⟨b, 0, none⟩), .int .u64 key] w fun e w' => e = .returned (.pointer (some ⟨sb, i * 7, none⟩)) ∧ Drawn0 w w' := by
  subst hi
  refine (slot_walk w b sb n n key h.ptr h.pos (by have := h.most; omega) hk).mono ?_
  rintro e w' ⟨rfl, hd⟩
  exact ⟨by rw [Nat.mul_comm]; rfl, hd⟩
theorem get_none (w : World) (b sb n c : Nat) (T : Nat → Option Ent) (key : Int) (hk : 0 ≤ key) (i : Nat) (hi : slotN key n = i) (h : TabAt w b sb n T c) (hT : T i = none) :
  Calls Try.prog 12 #[.pointer (some ⟨b, 0, none⟩), .int .u64 key] w fun e w' => e = .returned (.tuple #[.agg #[.int .u64 0, .int .i64 0, .int .i64 0, .int .i64 0, .int .i64 0, .int .i64 0], .bool false]) ∧ Below w.heap.size w w' := by
  have hs : i < n := hi ▸ slotN_lt hk h.pos
  have H := Aside0.mk h
  have hi' := Aside0.mk hi
  have hk' := Aside0.mk hk
  clear h hi hk
  go_enter Try.func12, Try.ntmps12
  go_wp2_with fail
  have H1 := Aside0.mk (H.out.below (below_alloc (Below.refl w.heap.size w) (.cells #[.int .u64 0, .int .i64 0, .int .i64 0, .int .i64 0, .int .i64 0, .int .i64 0] 40)))
  refine (slot_at hk'.out H1.out i hi'.out).mono ?_
  rintro e w1 ⟨rfl, ⟨q, rfl⟩⟩
  have e6 := H1.out.cells i 6 hs (by omega)
  rw [hT] at e6
  simp only [slotC, List.getElem?_cons_succ, List.getElem?_cons_zero] at e6
  go_wp2_with fail
  go_returns
  refine ⟨rfl, ?_⟩
  repeat' (first | (with_reducible exact Below.refl _ _) | (with_reducible refine pw_below_drewN ?_ _) | (with_reducible refine below_alloc ?_ _) | (with_reducible refine Below.drew ?_) | (with_reducible refine Below.setCell ?_ ?_ _) | (simp; done))
theorem get_other (w : World) (b sb n c : Nat) (T : Nat → Option Ent) (key : Int) (hk : 0 ≤ key) (i : Nat) (hi : slotN key n = i) (h : TabAt w b sb n T c) (x : Ent) (hT : T i = some x) (hx : (x.key == key) = false) :
  Calls Try.prog 12 #[.pointer (some ⟨b, 0, none⟩), .int .u64 key] w fun e w' => e = .returned (.tuple #[.agg #[.int .u64 0, .int .i64 0, .int .i64 0, .int .i64 0, .int .i64 0, .int .i64 0], .bool false]) ∧ Below w.heap.size w w' := by
  have hs : i < n := hi ▸ slotN_lt hk h.pos
  have H := Aside0.mk h
  have hi' := Aside0.mk hi
  have hk' := Aside0.mk hk
  clear h hi hk
  go_enter Try.func12, Try.ntmps12
  go_wp2_with fail
  have H1 := Aside0.mk (H.out.below (below_alloc (Below.refl w.heap.size w) (.cells #[.int .u64 0, .int .i64 0, .int .i64 0, .int .i64 0, .int .i64 0, .int .i64 0] 40)))
  refine (slot_at hk'.out H1.out i hi'.out).mono ?_
  rintro e w1 ⟨rfl, ⟨q, rfl⟩⟩
  have e0 := H1.out.cells i 0 hs (by omega)
  have e1 := H1.out.cells i 1 hs (by omega)
  have e2 := H1.out.cells i 2 hs (by omega)
  have e3 := H1.out.cells i 3 hs (by omega)
  have e4 := H1.out.cells i 4 hs (by omega)
  have e5 := H1.out.cells i 5 hs (by omega)
  have e6 := H1.out.cells i 6 hs (by omega)
  rw [hT] at e0 e1 e2 e3 e4 e5 e6
  simp only [slotC, List.getElem?_cons_succ, List.getElem?_cons_zero, Nat.add_zero] at e0 e1 e2 e3 e4 e5 e6
  go_wp2_with fail
  go_returns
  refine ⟨rfl, ?_⟩
  repeat' (first | (with_reducible exact Below.refl _ _) | (with_reducible refine pw_below_drewN ?_ _) | (with_reducible refine below_alloc ?_ _) | (with_reducible refine Below.drew ?_) | (with_reducible refine Below.setCell ?_ ?_ _) | (simp; done))
theorem get_found (w : World) (b sb n c : Nat) (T : Nat → Option Ent) (key : Int) (hk : 0 ≤ key) (i : Nat) (hi : slotN key n = i) (h : TabAt w b sb n T c) (x : Ent) (hT : T i = some x) (hx : (x.key == key) = true) :
  Calls Try.prog 12 #[.pointer (some ⟨b, 0, none⟩), .int .u64 key] w fun e w' => e = .returned (.tuple #[.agg #[.int .u64 x.key, .int .i64 x.depth, .int .i64 x.score, .int .i64 x.sure, .int .i64 x.frm, .int .i64 x.dest], .bool true]) ∧ Below w.heap.size w w' := by
  have hs : i < n := hi ▸ slotN_lt hk h.pos
  have H := Aside0.mk h
  have hi' := Aside0.mk hi
  have hk' := Aside0.mk hk
  clear h hi hk
  go_enter Try.func12, Try.ntmps12
  go_wp2_with fail
  have H1 := Aside0.mk (H.out.below (below_alloc (Below.refl w.heap.size w) (.cells #[.int .u64 0, .int .i64 0, .int .i64 0, .int .i64 0, .int .i64 0, .int .i64 0] 40)))
  refine (slot_at hk'.out H1.out i hi'.out).mono ?_
  rintro e w1 ⟨rfl, ⟨q, rfl⟩⟩
  have e0 := H1.out.cells i 0 hs (by omega)
  have e1 := H1.out.cells i 1 hs (by omega)
  have e2 := H1.out.cells i 2 hs (by omega)
  have e3 := H1.out.cells i 3 hs (by omega)
  have e4 := H1.out.cells i 4 hs (by omega)
  have e5 := H1.out.cells i 5 hs (by omega)
  have e6 := H1.out.cells i 6 hs (by omega)
  rw [hT] at e0 e1 e2 e3 e4 e5 e6
  simp only [slotC, List.getElem?_cons_succ, List.getElem?_cons_zero, Nat.add_zero] at e0 e1 e2 e3 e4 e5 e6
  go_wp2_with fail
  go_returns
  refine ⟨rfl, ?_⟩
  repeat' (first | (with_reducible exact Below.refl _ _) | (with_reducible refine pw_below_drewN ?_ _) | (with_reducible refine below_alloc ?_ _) | (with_reducible refine Below.drew ?_) | (with_reducible refine Below.setCell ?_ ?_ _) | (simp; done))
end Go.Proofs.Ytojklhlcoakieaa.P
