/- Walks and plain laws that several statements lean on, joined: no statement of the seat is proved here. -/
import Derived.Handy
import Derived.Deep.QuietTactic
import Derived.BigQuiet
import Derived.Lib.SliceRun
import Derived.Test.YtafmapadkpjliaaGreatDoorB9
import Derived.Test.YtafmapadkpjliaaGreatDoorB7
import Derived.Test.YtafmapadkpjliaaGreatDoorB8

/- Walks of the table's methods. -/
namespace Go.Proofs.YtafmapadkpjliaaGreatDoor.P
open Go.RowKit Go.Lib Go.Proofs.YtafmapadkpjliaaGreatDoorW.PrintWords Go.Proofs.YtafmapadkpjliaaGreatDoorW.PrintLast Go.Proofs.YtafmapadkpjliaaGreatDoorW.PrintMore
set_option linter.unusedVariables false
set_option linter.unusedSimpArgs false
/-- The number of a key's slot. -/
def slotN (key : Int) (n : Nat) : Nat := (key.tmod n).toNat
theorem slotN_lt {key : Int} {n : Nat} (hk : 0 ≤ key) (hn : 0 < n) : slotN key n < n := by
  have h1 := Int.tmod_lt_of_pos key (b := (n : Int)) (by omega)
  have h2 := Int.tmod_nonneg (n : Int) hk
  unfold slotN; omega
theorem TabAt.below {W W' : World} {b sb n c : Nat} {T : Nat → Option Ent} (h : TabAt W b sb n T c) (hb : Below W.heap.size W W') : TabAt W' b sb n T c := by
  have hlb : b < W.heap.size := World.block_lt_of_cell? W _ h.ptr
  have hls : sb < W.heap.size := by
    have e := h.cells 0 0 h.pos (by omega)
    obtain ⟨v, hv⟩ : ∃ v, (slotC (T 0))[0]? = some v := ⟨_, List.getElem?_eq_getElem (by rw [slotC_len]; omega)⟩
    rw [hv] at e
    exact World.block_lt_of_cell? W _ e
  exact ⟨(hb.cell (p := ⟨b, 0, none⟩) hlb).trans h.ptr, (hb.cell (p := ⟨b, 1, none⟩) hlb).trans h.cnt, (hb.frozen (p := ⟨b, 1, none⟩) hlb).trans h.fz, fun i j hi hj => (hb.cell (p := ⟨sb, i * 7 + j, none⟩) hls).trans (h.cells i j hi hj), fun i => (hb.frozen (p := ⟨sb, i, none⟩) hls).trans (h.fzs i), h.ne, h.pos, h.most⟩
/-- The slot of a key, its number a letter. -/
theorem slot_at {w : World} {b sb n c : Nat} {T : Nat → Option Ent} {key : Int} (hk : 0 ≤ key) (h : TabAt w b sb n T c) (i : Nat) (hi : slotN key n = i) :
  Calls Tryz.prog 78 #[.pointer (some ⟨b, 0, none⟩), .int .u64 key] w fun e w' => e = .returned (.pointer (some ⟨sb, i * 7, none⟩)) ∧ Drawn0 w w' := by
  subst hi
  refine (slot_walk w b sb n n key h.ptr h.pos (by have := h.most; omega) hk).mono ?_
  rintro e w' ⟨rfl, hd⟩
  exact ⟨by rw [Nat.mul_comm]; rfl, hd⟩
theorem get_none (w : World) (b sb n c : Nat) (T : Nat → Option Ent) (key : Int) (hk : 0 ≤ key) (i : Nat) (hi : slotN key n = i) (h : TabAt w b sb n T c) (hT : T i = none) :
  Calls Tryz.prog 70 #[.pointer (some ⟨b, 0, none⟩), .int .u64 key] w fun e w' => e = .returned (.tuple #[.agg #[.int .u64 0, .int .i64 0, .int .i64 0, .int .i64 0, .int .i64 0, .int .i64 0], .bool false]) ∧ Below w.heap.size w w' := by
  have hs : i < n := hi ▸ slotN_lt hk h.pos
  have H := Aside0.mk h
  have hi' := Aside0.mk hi
  have hk' := Aside0.mk hk
  clear h hi hk
  go_enter Tryz.func70, Tryz.ntmps70
  go_wp2_with fail
  have H1 := Aside0.mk (H.out.below (below_alloc (Below.refl w.heap.size w) (.cells #[.int .u64 0, .int .i64 0, .int .i64 0, .int .i64 0, .int .i64 0, .int .i64 0] 84)))
  refine (slot_at hk'.out H1.out i hi'.out).mono ?_
  rintro e w1 ⟨rfl, ⟨q, rfl⟩⟩
  have e6 := H1.out.cells i 6 hs (by omega)
  rw [hT] at e6
  simp only [slotC, List.getElem?_cons_succ, List.getElem?_cons_zero] at e6
  go_wp2_with fail
  go_returns
  refine ⟨rfl, ?_⟩
  repeat' (first | (with_reducible exact Below.refl _ _) | (with_reducible refine pw_below_drewN ?_ _) | (with_reducible refine below_alloc ?_ _) | (with_reducible refine Below.drew ?_) | (with_reducible refine Below.setCell ?_ ?_ _) | (simp; done))
theorem get_other (w : World) (b sb n c : Nat) (T : Nat → Option Ent) (key : Int) (hk : 0 ≤ key) (i : Nat) (hi : slotN key n = i) (h : TabAt w b sb n T c) (x : Ent) (hT : T i = some x) (hx : (x.key == key) = false) :
  Calls Tryz.prog 70 #[.pointer (some ⟨b, 0, none⟩), .int .u64 key] w fun e w' => e = .returned (.tuple #[.agg #[.int .u64 0, .int .i64 0, .int .i64 0, .int .i64 0, .int .i64 0, .int .i64 0], .bool false]) ∧ Below w.heap.size w w' := by
  have hs : i < n := hi ▸ slotN_lt hk h.pos
  have H := Aside0.mk h
  have hi' := Aside0.mk hi
  have hk' := Aside0.mk hk
  clear h hi hk
  go_enter Tryz.func70, Tryz.ntmps70
  go_wp2_with fail
  have H1 := Aside0.mk (H.out.below (below_alloc (Below.refl w.heap.size w) (.cells #[.int .u64 0, .int .i64 0, .int .i64 0, .int .i64 0, .int .i64 0, .int .i64 0] 84)))
  refine (slot_at hk'.out H1.out i hi'.out).mono ?_
  rintro e w1 ⟨rfl, ⟨q, rfl⟩⟩
  have e0 := H1.out.cells i 0 hs (by omega)
  have e1 := H1.out.cells i 1 hs (by omega)
  have e2 := H1.out.cells i 2 hs (by omega)
  have e3 := H1.out.cells i 3 hs (by omega)
  have e4 := H1.out.cells i 4 hs (by omega)
  have e5 := H1.out.cells i 5 hs (by omega)
  have e6 := H1.out.cells i 6 hs (by omega)
  rw [hT] at e0 e1 e2 e3 e4 e5 e6
  simp only [slotC, List.getElem?_cons_succ, List.getElem?_cons_zero, Nat.add_zero] at e0 e1 e2 e3 e4 e5 e6
  go_wp2_with fail
  go_returns
  refine ⟨rfl, ?_⟩
  repeat' (first | (with_reducible exact Below.refl _ _) | (with_reducible refine pw_below_drewN ?_ _) | (with_reducible refine below_alloc ?_ _) | (with_reducible refine Below.drew ?_) | (with_reducible refine Below.setCell ?_ ?_ _) | (simp; done))
theorem get_found (w : World) (b sb n c : Nat) (T : Nat → Option Ent) (key : Int) (hk : 0 ≤ key) (i : Nat) (hi : slotN key n = i) (h : TabAt w b sb n T c) (x : Ent) (hT : T i = some x) (hx : (x.key == key) = true) :
  Calls Tryz.prog 70 #[.pointer (some ⟨b, 0, none⟩), .int .u64 key] w fun e w' => e = .returned (.tuple #[.agg #[.int .u64 x.key, .int .i64 x.depth, .int .i64 x.score, .int .i64 x.sure, .int .i64 x.frm, .int .i64 x.dest], .bool true]) ∧ Below w.heap.size w w' := by
  have hs : i < n := hi ▸ slotN_lt hk h.pos
  have H := Aside0.mk h
  have hi' := Aside0.mk hi
  have hk' := Aside0.mk hk
  clear h hi hk
  go_enter Tryz.func70, Tryz.ntmps70
  go_wp2_with fail
  have H1 := Aside0.mk (H.out.below (below_alloc (Below.refl w.heap.size w) (.cells #[.int .u64 0, .int .i64 0, .int .i64 0, .int .i64 0, .int .i64 0, .int .i64 0] 84)))
  refine (slot_at hk'.out H1.out i hi'.out).mono ?_
  rintro e w1 ⟨rfl, ⟨q, rfl⟩⟩
  have e0 := H1.out.cells i 0 hs (by omega)
  have e1 := H1.out.cells i 1 hs (by omega)
  have e2 := H1.out.cells i 2 hs (by omega)
  have e3 := H1.out.cells i 3 hs (by omega)
  have e4 := H1.out.cells i 4 hs (by omega)
  have e5 := H1.out.cells i 5 hs (by omega)
  have e6 := H1.out.cells i 6 hs (by omega)
  rw [hT] at e0 e1 e2 e3 e4 e5 e6
  simp only [slotC, List.getElem?_cons_succ, List.getElem?_cons_zero, Nat.add_zero] at e0 e1 e2 e3 e4 e5 e6
  go_wp2_with fail
  go_returns
  refine ⟨rfl, ?_⟩
  repeat' (first | (with_reducible exact Below.refl _ _) | (with_reducible refine pw_below_drewN ?_ _) | (with_reducible refine below_alloc ?_ _) | (with_reducible refine Below.drew ?_) | (with_reducible refine Below.setCell ?_ ?_ _) | (simp; done))
end Go.Proofs.YtafmapadkpjliaaGreatDoor.P

/- Walks of the table's Put. -/
namespace Go.Proofs.YtafmapadkpjliaaGreatDoor.P
open Go.RowKit Go.Lib Go.Proofs.YtafmapadkpjliaaGreatDoorW.PrintWords Go.Proofs.YtafmapadkpjliaaGreatDoorW.PrintLast Go.Proofs.YtafmapadkpjliaaGreatDoorW.PrintMore
set_option linter.unusedVariables false
set_option linter.unusedSimpArgs false
/-- An entry as a value. -/
abbrev entV (e : Ent) : Value := .agg #[.int .u64 e.key, .int .i64 e.depth, .int .i64 e.score, .int .i64 e.sure, .int .i64 e.frm, .int .i64 e.dest]
theorem TabAt.lt {W : World} {b sb n c : Nat} {T : Nat → Option Ent} (h : TabAt W b sb n T c) : b < W.heap.size ∧ sb < W.heap.size := by
  refine ⟨World.block_lt_of_cell? W _ h.ptr, ?_⟩
  have e := h.cells 0 0 h.pos (by omega)
  obtain ⟨v, hv⟩ : ∃ v, (slotC (T 0))[0]? = some v := ⟨_, List.getElem?_eq_getElem (by rw [slotC_len]; omega)⟩
  rw [hv] at e
  exact World.block_lt_of_cell? W _ e
/-- What has been turned: blocks b and sb alone; what is new lies behind. -/
structure Turned (b sb : Nat) (w w' : World) : Prop where
  os : w'.os = w.os
  tape : w'.tape = w.tape
  output : w'.output = w.output
  size : w.heap.size ≤ w'.heap.size
  block : ∀ k, k < w.heap.size → k ≠ b → k ≠ sb → w'.heap[k]? = w.heap[k]?
theorem Turned.refl (b sb : Nat) (w : World) : Turned b sb w w := ⟨rfl, rfl, rfl, Nat.le_refl _, fun _ _ _ _ => rfl⟩
theorem Turned.of_below {w w' : World} (b sb : Nat) (h : Below w.heap.size w w') : Turned b sb w w' := ⟨h.os, h.tape, h.output, h.size, fun k hk _ _ => h.block k hk⟩
theorem Turned.trans {b sb : Nat} {u v w : World} (h : Turned b sb u v) (k : Turned b sb v w) : Turned b sb u w :=
  ⟨k.os.trans h.os, k.tape.trans h.tape, k.output.trans h.output, Nat.le_trans h.size k.size, fun i hi h1 h2 => (k.block i (Nat.lt_of_lt_of_le hi h.size) h1 h2).trans (h.block i hi h1 h2)⟩
theorem Turned.setCell {b sb : Nat} {u v : World} (h : Turned b sb u v) (g j : Nat) (x : Value) (hg : g = b ∨ g = sb) : Turned b sb u (v.setCell ⟨g, j, none⟩ x) := by
  refine ⟨?_, ?_, ?_, ?_, ?_⟩
  · simpa [World.setCell] using h.os
  · simpa [World.setCell] using h.tape
  · simpa [World.setCell] using h.output
  · simpa [World.setCell] using h.size
  · intro k hk h1 h2
    exact (Below.heap_setCell v ⟨g, j, none⟩ x k (by rcases hg with rfl | rfl <;> assumption)).trans (h.block k hk h1 h2)
theorem Turned.below {b sb B : Nat} {w w' : World} (h : Turned b sb w w') (hb : B ≤ b) (hs : B ≤ sb) (hz : B ≤ w.heap.size) : Below B w w' :=
  ⟨h.os, h.tape, h.output, h.size, fun k hk => h.block k (by omega) (by omega) (by omega)⟩
/-- The cells of a slot are written. -/
def setSlot (W : World) (sb i : Nat) (e : Ent) : World :=
  ((((((W.setCell ⟨sb, i * 7, none⟩ (.int .u64 e.key)).setCell ⟨sb, i * 7 + 1, none⟩ (.int .i64 e.depth)).setCell ⟨sb, i * 7 + 2, none⟩ (.int .i64 e.score)).setCell ⟨sb, i * 7 + 3, none⟩ (.int .i64 e.sure)).setCell ⟨sb, i * 7 + 4, none⟩ (.int .i64 e.frm)).setCell ⟨sb, i * 7 + 5, none⟩ (.int .i64 e.dest)).setCell ⟨sb, i * 7 + 6, none⟩ (.bool true)
theorem setSlot_frozen (W : World) (sb i : Nat) (e : Ent) (a : Addr) : (setSlot W sb i e).frozen? a = W.frozen? a := by
  unfold setSlot
  simp only [World.frozen?_setCell]
theorem setSlot_other (W : World) (sb i : Nat) (e : Ent) (g k : Nat) (h : g ≠ sb ∨ k < i * 7 ∨ i * 7 + 7 ≤ k) : (setSlot W sb i e).cell? ⟨g, k, none⟩ = W.cell? ⟨g, k, none⟩ := by
  have n : ∀ j, j < 7 → (⟨sb, i * 7 + j, none⟩ : Addr) ≠ ⟨g, k, none⟩ := by
    intro j hj e
    injection e with e1 e2 _
    rcases h with h | h | h
    · exact h e1.symm
    · omega
    · omega
  unfold setSlot
  rw [World.cell?_setCell_other _ _ _ _ (n 6 (by omega)), World.cell?_setCell_other _ _ _ _ (n 5 (by omega)), World.cell?_setCell_other _ _ _ _ (n 4 (by omega)), World.cell?_setCell_other _ _ _ _ (n 3 (by omega)), World.cell?_setCell_other _ _ _ _ (n 2 (by omega)), World.cell?_setCell_other _ _ _ _ (n 1 (by omega))]
  exact World.cell?_setCell_other _ _ _ _ (n 0 (by omega))
theorem setSlot_at (W : World) (sb i : Nat) (e : Ent) (j : Nat) (hj : j < 7) (hW : ∀ k, k < 7 → (W.cell? ⟨sb, i * 7 + k, none⟩).isSome = true) : (setSlot W sb i e).cell? ⟨sb, i * 7 + j, none⟩ = (slotC (some e))[j]? := by
  have n : ∀ k m, k ≠ m → (⟨sb, i * 7 + k, none⟩ : Addr) ≠ ⟨sb, i * 7 + m, none⟩ := by
    intro k m hkm e
    injection e with _ e2 _
    omega
  have z : i * 7 = i * 7 + 0 := rfl
  unfold setSlot
  have hc : j = 0 ∨ j = 1 ∨ j = 2 ∨ j = 3 ∨ j = 4 ∨ j = 5 ∨ j = 6 := by omega
  have iss : ∀ (V : World) (k m : Nat) (x : Value), (V.cell? ⟨sb, i * 7 + m, none⟩).isSome = true → ((V.setCell ⟨sb, i * 7 + k, none⟩ x).cell? ⟨sb, i * 7 + m, none⟩).isSome = true := by
    intro V k m x hV
    by_cases h : k = m
    · subst h; rw [World.cell?_setCell_same' _ _ _ hV]; rfl
    · rw [World.cell?_setCell_other _ _ _ _ (n k m h)]; exact hV
  have o : ∀ (V : World) (k m : Nat) (x : Value), k ≠ m → (V.setCell ⟨sb, i * 7 + k, none⟩ x).cell? ⟨sb, i * 7 + m, none⟩ = V.cell? ⟨sb, i * 7 + m, none⟩ := fun V k m x h => World.cell?_setCell_other _ _ _ _ (n k m h)
  have s : ∀ (V : World) (k : Nat) (x : Value), (V.cell? ⟨sb, i * 7 + k, none⟩).isSome = true → (V.setCell ⟨sb, i * 7 + k, none⟩ x).cell? ⟨sb, i * 7 + k, none⟩ = some x := fun V k x h => World.cell?_setCell_same' _ _ _ h
  rw [z]
  rcases hc with rfl | rfl | rfl | rfl | rfl | rfl | rfl
  · rw [o _ 6 0 _ (by omega), o _ 5 0 _ (by omega), o _ 4 0 _ (by omega), o _ 3 0 _ (by omega), o _ 2 0 _ (by omega), o _ 1 0 _ (by omega), s _ 0 _ (hW 0 (by omega))]; rfl
  · rw [o _ 6 1 _ (by omega), o _ 5 1 _ (by omega), o _ 4 1 _ (by omega), o _ 3 1 _ (by omega), o _ 2 1 _ (by omega), s _ 1 _ (iss _ 0 1 _ (hW 1 (by omega)))]; rfl
  · rw [o _ 6 2 _ (by omega), o _ 5 2 _ (by omega), o _ 4 2 _ (by omega), o _ 3 2 _ (by omega), s _ 2 _ (iss _ 1 2 _ (iss _ 0 2 _ (hW 2 (by omega))))]; rfl
  · rw [o _ 6 3 _ (by omega), o _ 5 3 _ (by omega), o _ 4 3 _ (by omega), s _ 3 _ (iss _ 2 3 _ (iss _ 1 3 _ (iss _ 0 3 _ (hW 3 (by omega)))))]; rfl
  · rw [o _ 6 4 _ (by omega), o _ 5 4 _ (by omega), s _ 4 _ (iss _ 3 4 _ (iss _ 2 4 _ (iss _ 1 4 _ (iss _ 0 4 _ (hW 4 (by omega))))))]; rfl
  · rw [o _ 6 5 _ (by omega), s _ 5 _ (iss _ 4 5 _ (iss _ 3 5 _ (iss _ 2 5 _ (iss _ 1 5 _ (iss _ 0 5 _ (hW 5 (by omega)))))))]; rfl
  · rw [s _ 6 _ (iss _ 5 6 _ (iss _ 4 6 _ (iss _ 3 6 _ (iss _ 2 6 _ (iss _ 1 6 _ (iss _ 0 6 _ (hW 6 (by omega))))))))]; rfl
theorem setSlot_turned {b sb : Nat} {u v : World} (h : Turned b sb u v) (i : Nat) (e : Ent) : Turned b sb u (setSlot v sb i e) :=
  (((((((h.setCell sb _ _ (.inr rfl)).setCell sb _ _ (.inr rfl)).setCell sb _ _ (.inr rfl)).setCell sb _ _ (.inr rfl)).setCell sb _ _ (.inr rfl)).setCell sb _ _ (.inr rfl)).setCell sb _ _ (.inr rfl))
/-- What a store makes of the table. -/
def putT (T : Nat → Option Ent) (i : Nat) (e : Ent) : Nat → Option Ent := fun j => if j = i then some e else T j
theorem TabAt.store {W : World} {b sb n c : Nat} {T : Nat → Option Ent} (h : TabAt W b sb n T c) (i : Nat) (hi : i < n) (e : Ent) : TabAt (setSlot W sb i e) b sb n (putT T i e) c := by
  have h7 : ∀ k, k < 7 → (W.cell? ⟨sb, i * 7 + k, none⟩).isSome = true := by
    intro k hk
    rw [h.cells i k hi hk, List.getElem?_eq_getElem (by rw [slotC_len]; exact hk)]
    rfl
  refine ⟨(setSlot_other _ _ _ _ _ _ (.inl h.ne)).trans h.ptr, (setSlot_other _ _ _ _ _ _ (.inl h.ne)).trans h.cnt, (setSlot_frozen _ _ _ _ _).trans h.fz, ?_, fun k => (setSlot_frozen _ _ _ _ _).trans (h.fzs k), h.ne, h.pos, h.most⟩
  intro k j hk hj
  unfold putT
  by_cases hki : k = i
  · rw [if_pos hki, hki]
    exact setSlot_at W sb i e j hj h7
  · rw [if_neg hki, setSlot_other _ _ _ _ _ _ (.inr (by omega))]
    exact h.cells k j hk hj
theorem TabAt.count {W : World} {b sb n c : Nat} {T : Nat → Option Ent} (h : TabAt W b sb n T c) (d : Nat) : TabAt (W.setCell ⟨b, 1, none⟩ (.int .i64 (d : Int))) b sb n T d := by
  have o : ∀ g j, (⟨b, 1, none⟩ : Addr) ≠ ⟨g, j, none⟩ → (W.setCell ⟨b, 1, none⟩ (.int .i64 (d : Int))).cell? ⟨g, j, none⟩ = W.cell? ⟨g, j, none⟩ := fun g j hh => World.cell?_setCell_other _ _ _ _ hh
  refine ⟨(o _ _ (by intro e; injection e with _ e2; omega)).trans h.ptr, World.cell?_setCell_same' _ _ _ (by rw [h.cnt]; rfl), by rw [World.frozen?_setCell]; exact h.fz, ?_, fun k => by rw [World.frozen?_setCell]; exact h.fzs k, h.ne, h.pos, h.most⟩
  intro i j hi hj
  exact (o _ _ (by intro e; injection e with e1; exact h.ne e1)).trans (h.cells i j hi hj)
theorem TabAt.drewN {W : World} {b sb n c : Nat} {T : Nat → Option Ent} (h : TabAt W b sb n T c) (q : Nat) : TabAt (W.drewN q) b sb n T c := ⟨h.ptr, h.cnt, h.fz, h.cells, h.fzs, h.ne, h.pos, h.most⟩
set_option maxHeartbeats 1000000 in
theorem put_nil (w : World) (b : Nat) (e : Ent)  :
  Calls Tryz.prog 43 #[.pointer none, entV e] w fun x w' => x = .returned (.bool false) ∧ Below w.heap.size w w' := by
  go_enter Tryz.func43, Tryz.ntmps43
  go_wp2_with fail
  go_returns
  refine ⟨rfl, ?_⟩
  repeat' (first | (with_reducible exact Below.refl _ _) | (with_reducible refine pw_below_drewN ?_ _) | (with_reducible refine below_alloc ?_ _) | (with_reducible refine Below.drew ?_) | (with_reducible refine Below.setCell ?_ ?_ _) | (simp; done))
set_option maxHeartbeats 1000000 in
theorem put_low (w : World) (b : Nat) (e : Ent) (s0 : decide (e.sure < 0) = true) :
  Calls Tryz.prog 43 #[.pointer (some ⟨b, 0, none⟩), entV e] w fun x w' => x = .returned (.bool false) ∧ Below w.heap.size w w' := by
  go_enter Tryz.func43, Tryz.ntmps43
  go_wp2_with fail
  go_returns
  refine ⟨rfl, ?_⟩
  repeat' (first | (with_reducible exact Below.refl _ _) | (with_reducible refine pw_below_drewN ?_ _) | (with_reducible refine below_alloc ?_ _) | (with_reducible refine Below.drew ?_) | (with_reducible refine Below.setCell ?_ ?_ _) | (simp; done))
set_option maxHeartbeats 1000000 in
theorem put_high (w : World) (b : Nat) (e : Ent) (s0 : decide (e.sure < 0) = false) (s1 : decide (2 < e.sure) = true) :
  Calls Tryz.prog 43 #[.pointer (some ⟨b, 0, none⟩), entV e] w fun x w' => x = .returned (.bool false) ∧ Below w.heap.size w w' := by
  go_enter Tryz.func43, Tryz.ntmps43
  go_wp2_with fail
  go_returns
  refine ⟨rfl, ?_⟩
  repeat' (first | (with_reducible exact Below.refl _ _) | (with_reducible refine pw_below_drewN ?_ _) | (with_reducible refine below_alloc ?_ _) | (with_reducible refine Below.drew ?_) | (with_reducible refine Below.setCell ?_ ?_ _) | (simp; done))
set_option maxHeartbeats 1000000 in
theorem put_new (w : World) (b sb n c : Nat) (T : Nat → Option Ent) (e : Ent) (hk : 0 ≤ e.key) (i : Nat) (hi : slotN e.key n = i) (h : TabAt w b sb n T c) (hT : T i = none) (s0 : decide (e.sure < 0) = false) (s1 : decide (2 < e.sure) = false) (hc : IntKind.i64.wrap ((c : Int) + 1) = ((c + 1 : Nat) : Int)) :
  Calls Tryz.prog 43 #[.pointer (some ⟨b, 0, none⟩), entV e] w fun x w' => x = .returned (.bool true) ∧ TabAt w' b sb n (putT T i e) (c + 1) ∧ Turned b sb w w' := by
  have hs : i < n := hi ▸ slotN_lt hk h.pos
  have H := Aside0.mk h
  have hi' := Aside0.mk hi
  have hk' := Aside0.mk hk
  clear h hi hk
  go_enter Tryz.func43, Tryz.ntmps43
  go_wp2_with fail
  have H1 := Aside0.mk (H.out.below (below_alloc (Below.refl w.heap.size w) (.cells #[.int .u64 e.key, .int .i64 e.depth, .int .i64 e.score, .int .i64 e.sure, .int .i64 e.frm, .int .i64 e.dest] 84)))
  refine (slot_at hk'.out H1.out i hi'.out).mono ?_
  rintro e1 w1 ⟨rfl, ⟨q, rfl⟩⟩
  have e0 := H1.out.cells i 0 hs (by omega)
  have e1 := H1.out.cells i 1 hs (by omega)
  have e2 := H1.out.cells i 2 hs (by omega)
  have e3 := H1.out.cells i 3 hs (by omega)
  have e4 := H1.out.cells i 4 hs (by omega)
  have e5 := H1.out.cells i 5 hs (by omega)
  have e6 := H1.out.cells i 6 hs (by omega)
  rw [hT] at e0 e1 e2 e3 e4 e5 e6
  simp only [slotC, List.getElem?_cons_succ, List.getElem?_cons_zero, Nat.add_zero] at e0 e1 e2 e3 e4 e5 e6
  have k1 := H1.out.cnt
  have k2 := H1.out.fz
  have k3 := H1.out.fzs
  have k4 : b ≠ sb := H1.out.ne
  obtain ⟨l1, l2⟩ := H.out.lt
  have n1 : ¬ b = w.heap.size := by omega
  have n2 : ¬ w.heap.size = b := by omega
  have n3 : ¬ sb = w.heap.size := by omega
  have n4 : ¬ w.heap.size = sb := by omega
  have n5 : ¬ sb = b := fun h => k4 h.symm
  clear l1 l2
  go_wp2_with fail
  go_returns
  exact ⟨rfl, ((H1.out.drewN q).count (c + 1)).store i hs e, setSlot_turned ((Turned.of_below b sb (pw_below_drewN (below_alloc (Below.refl _ _) _) q)).setCell b 1 _ (.inl rfl)) i e⟩
set_option maxHeartbeats 1000000 in
theorem put_same (w : World) (b sb n c : Nat) (T : Nat → Option Ent) (e : Ent) (hk : 0 ≤ e.key) (i : Nat) (hi : slotN e.key n = i) (h : TabAt w b sb n T c) (x : Ent) (hT : T i = some x) (s0 : decide (e.sure < 0) = false) (s1 : decide (2 < e.sure) = false) (x0 : (x.key == e.key) = true) :
  Calls Tryz.prog 43 #[.pointer (some ⟨b, 0, none⟩), entV e] w fun y w' => y = .returned (.bool true) ∧ TabAt w' b sb n (putT T i e) c ∧ Turned b sb w w' := by
  have hs : i < n := hi ▸ slotN_lt hk h.pos
  have x00 : (x.key != e.key) = false := by simp [bne, x0]
  have H := Aside0.mk h
  have hi' := Aside0.mk hi
  have hk' := Aside0.mk hk
  clear h hi hk
  go_enter Tryz.func43, Tryz.ntmps43
  go_wp2_with fail
  have H1 := Aside0.mk (H.out.below (below_alloc (Below.refl w.heap.size w) (.cells #[.int .u64 e.key, .int .i64 e.depth, .int .i64 e.score, .int .i64 e.sure, .int .i64 e.frm, .int .i64 e.dest] 84)))
  refine (slot_at hk'.out H1.out i hi'.out).mono ?_
  rintro e1 w1 ⟨rfl, ⟨q, rfl⟩⟩
  have e0 := H1.out.cells i 0 hs (by omega)
  have e1 := H1.out.cells i 1 hs (by omega)
  have e2 := H1.out.cells i 2 hs (by omega)
  have e3 := H1.out.cells i 3 hs (by omega)
  have e4 := H1.out.cells i 4 hs (by omega)
  have e5 := H1.out.cells i 5 hs (by omega)
  have e6 := H1.out.cells i 6 hs (by omega)
  rw [hT] at e0 e1 e2 e3 e4 e5 e6
  simp only [slotC, List.getElem?_cons_succ, List.getElem?_cons_zero, Nat.add_zero] at e0 e1 e2 e3 e4 e5 e6
  have k1 := H1.out.cnt
  have k2 := H1.out.fz
  have k3 := H1.out.fzs
  have k4 : b ≠ sb := H1.out.ne
  obtain ⟨l1, l2⟩ := H.out.lt
  have n1 : ¬ b = w.heap.size := by omega
  have n2 : ¬ w.heap.size = b := by omega
  have n3 : ¬ sb = w.heap.size := by omega
  have n4 : ¬ w.heap.size = sb := by omega
  have n5 : ¬ sb = b := fun h => k4 h.symm
  clear l1 l2
  go_wp2_with fail
  go_quiet (fail)
  go_wp2_with fail
  go_returns
  exact ⟨rfl, (H1.out.drewN (q + nq)).store i hs e, setSlot_turned (Turned.of_below b sb (pw_below_drewN (below_alloc (Below.refl _ _) _) (q + nq))) i e⟩
set_option maxHeartbeats 1000000 in
theorem put_over (w : World) (b sb n c : Nat) (T : Nat → Option Ent) (e : Ent) (hk : 0 ≤ e.key) (i : Nat) (hi : slotN e.key n = i) (h : TabAt w b sb n T c) (x : Ent) (hT : T i = some x) (s0 : decide (e.sure < 0) = false) (s1 : decide (2 < e.sure) = false) (x0 : (x.key == e.key) = false) (x1 : decide (e.depth < x.depth) = false) :
  Calls Tryz.prog 43 #[.pointer (some ⟨b, 0, none⟩), entV e] w fun y w' => y = .returned (.bool true) ∧ TabAt w' b sb n (putT T i e) c ∧ Turned b sb w w' := by
  have hs : i < n := hi ▸ slotN_lt hk h.pos
  have x00 : (x.key != e.key) = true := by simp [bne, x0]
  have H := Aside0.mk h
  have hi' := Aside0.mk hi
  have hk' := Aside0.mk hk
  clear h hi hk
  go_enter Tryz.func43, Tryz.ntmps43
  go_wp2_with fail
  have H1 := Aside0.mk (H.out.below (below_alloc (Below.refl w.heap.size w) (.cells #[.int .u64 e.key, .int .i64 e.depth, .int .i64 e.score, .int .i64 e.sure, .int .i64 e.frm, .int .i64 e.dest] 84)))
  refine (slot_at hk'.out H1.out i hi'.out).mono ?_
  rintro e1 w1 ⟨rfl, ⟨q, rfl⟩⟩
  have e0 := H1.out.cells i 0 hs (by omega)
  have e1 := H1.out.cells i 1 hs (by omega)
  have e2 := H1.out.cells i 2 hs (by omega)
  have e3 := H1.out.cells i 3 hs (by omega)
  have e4 := H1.out.cells i 4 hs (by omega)
  have e5 := H1.out.cells i 5 hs (by omega)
  have e6 := H1.out.cells i 6 hs (by omega)
  rw [hT] at e0 e1 e2 e3 e4 e5 e6
  simp only [slotC, List.getElem?_cons_succ, List.getElem?_cons_zero, Nat.add_zero] at e0 e1 e2 e3 e4 e5 e6
  have k1 := H1.out.cnt
  have k2 := H1.out.fz
  have k3 := H1.out.fzs
  have k4 : b ≠ sb := H1.out.ne
  obtain ⟨l1, l2⟩ := H.out.lt
  have n1 : ¬ b = w.heap.size := by omega
  have n2 : ¬ w.heap.size = b := by omega
  have n3 : ¬ sb = w.heap.size := by omega
  have n4 : ¬ w.heap.size = sb := by omega
  have n5 : ¬ sb = b := fun h => k4 h.symm
  clear l1 l2
  go_wp2_with fail
  go_quiet (fail)
  go_wp2_with fail
  go_returns
  exact ⟨rfl, (H1.out.drewN (q + nq)).store i hs e, setSlot_turned (Turned.of_below b sb (pw_below_drewN (below_alloc (Below.refl _ _) _) (q + nq))) i e⟩
set_option maxHeartbeats 1000000 in
theorem put_keep (w : World) (b sb n c : Nat) (T : Nat → Option Ent) (e : Ent) (hk : 0 ≤ e.key) (i : Nat) (hi : slotN e.key n = i) (h : TabAt w b sb n T c) (x : Ent) (hT : T i = some x) (s0 : decide (e.sure < 0) = false) (s1 : decide (2 < e.sure) = false) (x0 : (x.key == e.key) = false) (x1 : decide (e.depth < x.depth) = true) :
  Calls Tryz.prog 43 #[.pointer (some ⟨b, 0, none⟩), entV e] w fun y w' => y = .returned (.bool false) ∧ Below w.heap.size w w' := by
  have hs : i < n := hi ▸ slotN_lt hk h.pos
  have x00 : (x.key != e.key) = true := by simp [bne, x0]
  have H := Aside0.mk h
  have hi' := Aside0.mk hi
  have hk' := Aside0.mk hk
  clear h hi hk
  go_enter Tryz.func43, Tryz.ntmps43
  go_wp2_with fail
  have H1 := Aside0.mk (H.out.below (below_alloc (Below.refl w.heap.size w) (.cells #[.int .u64 e.key, .int .i64 e.depth, .int .i64 e.score, .int .i64 e.sure, .int .i64 e.frm, .int .i64 e.dest] 84)))
  refine (slot_at hk'.out H1.out i hi'.out).mono ?_
  rintro e1 w1 ⟨rfl, ⟨q, rfl⟩⟩
  have e0 := H1.out.cells i 0 hs (by omega)
  have e1 := H1.out.cells i 1 hs (by omega)
  have e2 := H1.out.cells i 2 hs (by omega)
  have e3 := H1.out.cells i 3 hs (by omega)
  have e4 := H1.out.cells i 4 hs (by omega)
  have e5 := H1.out.cells i 5 hs (by omega)
  have e6 := H1.out.cells i 6 hs (by omega)
  rw [hT] at e0 e1 e2 e3 e4 e5 e6
  simp only [slotC, List.getElem?_cons_succ, List.getElem?_cons_zero, Nat.add_zero] at e0 e1 e2 e3 e4 e5 e6
  have k1 := H1.out.cnt
  have k2 := H1.out.fz
  have k3 := H1.out.fzs
  have k4 : b ≠ sb := H1.out.ne
  obtain ⟨l1, l2⟩ := H.out.lt
  have n1 : ¬ b = w.heap.size := by omega
  have n2 : ¬ w.heap.size = b := by omega
  have n3 : ¬ sb = w.heap.size := by omega
  have n4 : ¬ w.heap.size = sb := by omega
  have n5 : ¬ sb = b := fun h => k4 h.symm
  clear l1 l2
  go_wp2_with fail
  go_quiet (fail)
  go_wp2_with fail
  go_returns
  refine ⟨rfl, ?_⟩
  repeat' (first | (with_reducible exact Below.refl _ _) | (with_reducible refine pw_below_drewN ?_ _) | (with_reducible refine below_alloc ?_ _) | (with_reducible refine Below.drew ?_) | (with_reducible refine Below.setCell ?_ ?_ _) | (simp; done))
end Go.Proofs.YtafmapadkpjliaaGreatDoor.P

/- Walks of the table's Use and Clear; Put and Get in one contract each. -/
namespace Go.Proofs.YtafmapadkpjliaaGreatDoor.P
open Go.RowKit Go.Lib Go.Proofs.YtafmapadkpjliaaGreatDoorW.PrintWords Go.Proofs.YtafmapadkpjliaaGreatDoorW.PrintLast Go.Proofs.YtafmapadkpjliaaGreatDoorW.PrintMore
set_option linter.unusedVariables false
set_option linter.unusedSimpArgs false
abbrev zeroEnt : Ent := ⟨0, 0, 0, 0, 0, 0⟩
/-- What is got of a key. -/
def getF (T : Nat → Option Ent) (n : Nat) (key : Int) : Ent × Bool :=
  match T (slotN key n) with
  | none => (zeroEnt, false)
  | some x => if x.key == key then (x, true) else (zeroEnt, false)
theorem get_walk (w : World) (b sb n c : Nat) (T : Nat → Option Ent) (key : Int) (hk : 0 ≤ key) (h : TabAt w b sb n T c) :
  Calls Tryz.prog 70 #[.pointer (some ⟨b, 0, none⟩), .int .u64 key] w fun e w' => e = .returned (.tuple #[entV (getF T n key).1, .bool (getF T n key).2]) ∧ Below w.heap.size w w' := by
  rcases hT : T (slotN key n) with _ | x
  · have hg : getF T n key = (zeroEnt, false) := by unfold getF; rw [hT]
    rw [hg]
    exact get_none w b sb n c T key hk _ rfl h hT
  · cases hx : (x.key == key)
    · have hg : getF T n key = (zeroEnt, false) := by unfold getF; rw [hT]; simp [hx]
      rw [hg]
      exact get_other w b sb n c T key hk _ rfl h x hT hx
    · have hg : getF T n key = (x, true) := by unfold getF; rw [hT]; simp [hx]
      rw [hg]
      exact get_found w b sb n c T key hk _ rfl h x hT hx
theorem get_nil (w : World) (key : Int) :
  Calls Tryz.prog 70 #[.pointer none, .int .u64 key] w fun e w' => e = .returned (.tuple #[entV zeroEnt, .bool false]) ∧ Below w.heap.size w w' := by
  go_enter Tryz.func70, Tryz.ntmps70
  go_wp2_with fail
  go_returns
  refine ⟨rfl, ?_⟩
  repeat' (first | (with_reducible exact Below.refl _ _) | (with_reducible refine pw_below_drewN ?_ _) | (with_reducible refine below_alloc ?_ _) | (with_reducible refine Below.drew ?_) | (with_reducible refine Below.setCell ?_ ?_ _) | (simp; done))
/-- What a Put answers, and makes of the table. -/
def putF (T : Nat → Option Ent) (n c : Nat) (e : Ent) : Bool × (Nat → Option Ent) × Nat :=
  if decide (e.sure < 0) || decide (2 < e.sure) then (false, T, c) else
  match T (slotN e.key n) with
  | none => (true, putT T (slotN e.key n) e, c + 1)
  | some x => if !(x.key == e.key) && decide (e.depth < x.depth) then (false, T, c) else (true, putT T (slotN e.key n) e, c)
theorem put_walk (w : World) (b sb n c : Nat) (T : Nat → Option Ent) (e : Ent) (hk : 0 ≤ e.key) (h : TabAt w b sb n T c) (hc : c < 4611686018427387904) :
  Calls Tryz.prog 43 #[.pointer (some ⟨b, 0, none⟩), entV e] w fun x w' => x = .returned (.bool (putF T n c e).1) ∧ TabAt w' b sb n (putF T n c e).2.1 (putF T n c e).2.2 ∧ Turned b sb w w' := by
  cases s0 : decide (e.sure < 0)
  case true =>
    have hp : putF T n c e = (false, T, c) := by unfold putF; rw [s0]; rfl
    rw [hp]
    exact (put_low w b e s0).mono fun x w' ⟨h1, h2⟩ => ⟨h1, h.below h2, Turned.of_below _ _ h2⟩
  cases s1 : decide (2 < e.sure)
  case true =>
    have hp : putF T n c e = (false, T, c) := by unfold putF; rw [s0, s1]; rfl
    rw [hp]
    exact (put_high w b e s0 s1).mono fun x w' ⟨h1, h2⟩ => ⟨h1, h.below h2, Turned.of_below _ _ h2⟩
  rcases hT : T (slotN e.key n) with _ | x
  · have hp : putF T n c e = (true, putT T (slotN e.key n) e, c + 1) := by unfold putF; rw [s0, s1, hT]; rfl
    rw [hp]
    exact put_new w b sb n c T e hk _ rfl h hT s0 s1 (by unfold IntKind.wrap; simp [IntKind.signed, IntKind.bits]; omega)
  · cases x0 : (x.key == e.key)
    · cases x1 : decide (e.depth < x.depth)
      · have hp : putF T n c e = (true, putT T (slotN e.key n) e, c) := by unfold putF; rw [s0, s1, hT]; simp [x1]
        rw [hp]
        exact put_over w b sb n c T e hk _ rfl h x hT s0 s1 x0 x1
      · have hp : putF T n c e = (false, T, c) := by unfold putF; rw [s0, s1, hT]; simp [x0, x1]
        rw [hp]
        exact (put_keep w b sb n c T e hk _ rfl h x hT s0 s1 x0 x1).mono fun x w' ⟨h1, h2⟩ => ⟨h1, h.below h2, Turned.of_below _ _ h2⟩
    · have hp : putF T n c e = (true, putT T (slotN e.key n) e, c) := by unfold putF; rw [s0, s1, hT]; simp [x0]
      rw [hp]
      exact put_same w b sb n c T e hk _ rfl h x hT s0 s1 x0
/-- What is used of what was got. -/
def useF (g : Ent × Bool) (depth low high : Int) : Int × Bool :=
  if g.2 = false ∨ g.1.depth < depth then (0, false) else
  if (if g.1.sure = 1 then high ≤ g.1.score else if g.1.sure = 2 then g.1.score ≤ low else True) then (g.1.score, true) else (0, false)
end Go.Proofs.YtafmapadkpjliaaGreatDoor.P

/- Walk of the laws' live. -/
namespace Go.Proofs.YtafmapadkpjliaaGreatDoor.P
open Go.RowKit Go.Lib Go.Proofs.YtafmapadkpjliaaGreatDoorW.PrintWords Go.Proofs.YtafmapadkpjliaaGreatDoorW.PrintLast Go.Proofs.YtafmapadkpjliaaGreatDoorW.PrintMore
set_option linter.unusedVariables false
set_option linter.unusedSimpArgs false
theorem new_small (w : World) (n : Int) (h : decide (n < 1) = true) :
  Calls Tryz.prog 11 #[.int .i64 n] w fun e w' => e = .returned (.tuple #[.pointer none, .int .i64 1]) ∧ w' = w := by
  go_enter Tryz.func11, Tryz.ntmps11
  go_wp2
  go_ret2
  exact ⟨rfl, rfl⟩
theorem new_great (w : World) (n : Int) (h : decide (n < 1) = false) (h2 : decide (4096 < n) = true) :
  Calls Tryz.prog 11 #[.int .i64 n] w fun e w' => e = .returned (.tuple #[.pointer none, .int .i64 1]) ∧ w' = w := by
  go_enter Tryz.func11, Tryz.ntmps11
  go_wp2
  go_ret2
  exact ⟨rfl, rfl⟩
theorem Turned.cell {b sb : Nat} {w w' : World} (h : Turned b sb w w') (k j : Nat) (hk : k < w.heap.size) (h1 : k ≠ b) (h2 : k ≠ sb) : w'.cell? ⟨k, j, none⟩ = w.cell? ⟨k, j, none⟩ := by
  simp only [World.cell?, h.block k hk h1 h2]
end Go.Proofs.YtafmapadkpjliaaGreatDoor.P

/- Worlds that keep all but some blocks (W2's first part, for seats without games). -/
namespace Go.Proofs.YtafmapadkpjliaaGreatDoor.K
open Go.RowKit Go.Lib Go.Proofs.YtafmapadkpjliaaGreatDoorW.PrintWords Go.Proofs.YtafmapadkpjliaaGreatDoor.Sp
set_option linter.unusedVariables false
set_option linter.unusedSimpArgs false
/-- All that was there is there still, but for the blocks of S. -/
structure Ken (S : Nat → Prop) (w w' : World) : Prop where
  b0 : Below 0 w w'
  block : ∀ k, k < w.heap.size → ¬ S k → w'.heap[k]? = w.heap[k]?
section
variable {S T : Nat → Prop} {w w' w2 : World}
theorem Ken.refl (S : Nat → Prop) (w : World) : Ken S w w := ⟨Below.refl _ _, fun _ _ _ => rfl⟩
theorem Ken.size (h : Ken S w w') : w.heap.size ≤ w'.heap.size := h.b0.size
theorem Ken.trans (h : Ken S w w') (k : Ken T w' w2) (hs : ∀ j, T j → S j ∨ w.heap.size ≤ j) : Ken S w w2 :=
  ⟨h.b0.trans k.b0, fun i hi hn => (k.block i (Nat.lt_of_lt_of_le hi h.size) (fun h2 => (hs i h2).elim hn (fun h3 => by omega))).trans (h.block i hi hn)⟩
theorem Ken.of_below (hb : Below w.heap.size w w') (S : Nat → Prop) : Ken S w w' := ⟨hb.mono (Nat.zero_le _), fun k hk _ => hb.block k hk⟩
theorem Ken.below (h : Ken S w w') (hb : Below w'.heap.size w' w2) : Ken S w w2 := h.trans (Ken.of_below hb (fun _ => False)) (fun _ hk => hk.elim)
theorem Ken.setCell (h : Ken S w w') {p : Addr} (hp : S p.block ∨ w.heap.size ≤ p.block) (u : Value) : Ken S w (w'.setCell p u) :=
  h.trans (T := fun k => k = p.block) ⟨(Below.refl 0 w').setCell (Nat.zero_le _) u, fun i _ hn => Below.heap_setCell w' p u i hn⟩ (fun k hk => by rw [hk]; exact hp)
theorem Ken.grown (h : Ken S w w') {row : Option Nat} (hg : w'.grownBy w2 row) (hr : ∀ k, row = some k → S k ∨ w.heap.size ≤ k) : Ken S w w2 :=
  h.trans (T := fun k => row = some k) ⟨(Below.refl 0 w').grown hg (Nat.zero_le _) (fun _ _ => Nat.zero_le _), fun i hi hn => hg.block i hi (fun he => hn he.symm)⟩ hr
theorem Ken.toBelow (h : Ken S w w') {B : Nat} (hB : B ≤ w.heap.size) (hs : ∀ k, S k → B ≤ k) : Below B w w' :=
  ⟨h.b0.os, h.b0.tape, h.b0.output, h.size, fun k hk => h.block k (by omega) (fun h2 => by have := hs k h2; omega)⟩
theorem Ken.cell (h : Ken S w w') {g o : Nat} {v : Value} (hc : w.cell? ⟨g, o, none⟩ = some v) (hn : ¬ S g) : w'.cell? ⟨g, o, none⟩ = some v :=
  (World.cell?_of_block (w := w) (h.block g (World.block_lt_of_cell? w ⟨g, o, none⟩ hc) hn)).trans hc
theorem Ken.free (h : Ken S w w') {g o : Nat} (hlt : g < w.heap.size) (hn : ¬ S g) : w'.frozen? ⟨g, o, none⟩ = w.frozen? ⟨g, o, none⟩ :=
  World.frozen?_of_block (w := w) (h.block g hlt hn)
theorem Ken.mono (h : Ken S w w') (hs : ∀ k, S k → T k) : Ken T w w' := ⟨h.b0, fun k hk hn => h.block k hk (fun h2 => hn (hs k h2))⟩
theorem Ken.row (h : Ken S w w') {base : Nat} {e : TypeId} {size n : Nat} {v : Value} {xs : List Value} (ho : w.ownsRow base e size v n xs) (hn : ∀ k, v.ownBlock = some k → ¬ S k) : w'.ownsRow base e size v n xs := by
  obtain ⟨h1, h2 | ⟨g, cap, cur, hv, hb, hh, r⟩⟩ := ho
  · exact ⟨h1, .inl h2⟩
  · exact ⟨h1, .inr ⟨g, cap, cur, hv, hb, by rw [h.block g (blk_lt hh) (hn g (by rw [hv]; rfl))]; exact hh, r⟩⟩
end
end Go.Proofs.YtafmapadkpjliaaGreatDoor.K

/- Plain law: how many lines there are. -/
namespace Go.Proofs.YtafmapadkpjliaaGreatDoor.K
open Go.RowKit Go.Lib Go.Proofs.YtafmapadkpjliaaGreatDoorW.PrintWords Go.Proofs.YtafmapadkpjliaaGreatDoor.Sp
set_option linter.unusedVariables false
set_option linter.unusedSimpArgs false
/-- How many lines there are, of a board that is right. -/
def linesR (s : ByteArray) (a : Int) : Nat → Nat
  | 0 => 1
  | d + 1 => ((legalR s a).map (fun m => linesR (movedB s m.1 m.2) (1 - a) d)).sum
theorem sum_le {α : Type} (l : List α) (f : α → Nat) (b : Nat) (h : ∀ x ∈ l, f x ≤ b) : (l.map f).sum ≤ l.length * b := by
  induction l with
  | nil => simp
  | cons x r ih =>
    have h1 := h x List.mem_cons_self
    have h2 := ih (fun y hy => h y (List.mem_cons_of_mem _ hy))
    simp only [List.map_cons, List.sum_cons, List.length_cons]
    rw [Nat.succ_mul]
    omega
theorem legalR_len (s : ByteArray) (a : Int) : (legalR s a).length ≤ 8100 := Nat.le_trans (List.length_filter_le _ _) (gathM_len s a _ 90)
theorem lines_le : ∀ (d : Nat) (s : ByteArray) (a : Int), linesR s a d ≤ 8100 ^ d
  | 0, _, _ => Nat.le_refl _
  | d + 1, s, a => by
    unfold linesR
    refine Nat.le_trans (sum_le _ _ (8100 ^ d) (fun m _ => lines_le d _ _)) ?_
    rw [Nat.pow_succ, Nat.mul_comm]
    exact Nat.mul_le_mul_left _ (legalR_len s a)
theorem lines_one (s : ByteArray) (a : Int) : linesR s a 1 = (legalR s a).length := by
  unfold linesR
  have : ∀ l : List Mv, (l.map (fun m => linesR (movedB s m.1 m.2) (1 - a) 0)).sum = l.length := by
    intro l
    induction l with
    | nil => rfl
    | cons x r ih =>
      simp only [List.map_cons, List.sum_cons, List.length_cons, ih]
      show 1 + r.length = r.length + 1
      omega
  exact this _
/-- Behind a move that may be made. -/
theorem legal_next {p : Pos} {m : Mv} (hm : m ∈ legalL p) : (makeP p (mviOf m)).1.cells = movedB p.cells m.1 m.2 ∧ (makeP p (mviOf m)).1.side = 1 - p.side ∧ wellS (makeP p (mviOf m)).1 = 0 ∧ (makeP p (mviOf m)).2.2 = 0 := by
  obtain ⟨hw, hg, hs⟩ := legal_mem.1 hm
  have hck := well_check hw
  have hgd := safe_is_good hck hs
  obtain ⟨mb, h1, _, _, h4⟩ := legal_make hm
  refine ⟨?_, by rw [h1], h4, by rw [h1]⟩
  rw [make_ok hw hs, apply_good hck hgd]
  rfl
theorem lines_turn : ∀ (d : Nat) (p : Pos), wellS p = 0 → linesR (turnS p.cells) (1 - p.side) d = linesR p.cells p.side d
  | 0, _, _ => rfl
  | d + 1, p, hw => by
    have hck := well_check hw
    obtain ⟨hbd, hsd, _⟩ := argOk_yes (checkP_parts hck).1
    have hwt : wellS (turnP p) = 0 := by rw [well_turn hbd hsd, hw]
    have e1 : legalR (turnS p.cells) (1 - p.side) = ((legalR p.cells p.side).map flipM).reverse := by
      have := legal_turn hbd hsd
      rw [legal_eq hw, legal_eq hwt] at this
      exact this
    unfold linesR
    rw [e1, List.map_reverse, List.sum_reverse, List.map_map]
    congr 1
    refine List.map_congr_left fun m hm => ?_
    have hm' : m ∈ legalL p := by rw [legal_eq hw]; exact hm
    obtain ⟨_, hg, hs⟩ := legal_mem.1 hm'
    obtain ⟨_, h1, h2, h3, h4, _⟩ := gath_mem hg
    obtain ⟨_, _, _, hab, _⟩ := move_parts hck h1 h2 h3 h4
    obtain ⟨q1, q2, q3, _⟩ := legal_next hm'
    have hq := (argOk_yes (checkP_parts (well_check q3)).1).1
    rw [q1] at hq
    show linesR (movedB (turnS p.cells) (89 - m.1) (89 - m.2)) (1 - (1 - p.side)) d = _
    rw [moved_turn hbd hq h1 h2 hab]
    have := lines_turn d (makeP p (mviOf m)).1 q3
    rw [q1, q2] at this
    exact this
end Go.Proofs.YtafmapadkpjliaaGreatDoor.K

/- Plain law of quiet: what a position is worth when all captures are done; what lies between two bounds. -/
namespace Go.Proofs.YtafmapadkpjliaaGreatDoor.K
open Go.RowKit Go.Lib Go.Proofs.YtafmapadkpjliaaGreatDoorW.PrintWords Go.Proofs.YtafmapadkpjliaaGreatDoor.Sp
set_option linter.unusedVariables false
set_option linter.unusedSimpArgs false
/-- Behind a move that may be made. -/
theorem legal_step8 {p : Pos} {m : Mv} (hm : m ∈ legalL p) : ∃ q c, makeP p (mviOf m) = (q, c, 0) ∧ wellS q = 0 ∧ OkMv p q m c ∧ q.cells = movedB p.cells m.1 m.2 ∧ q.side = 1 - p.side := by
  obtain ⟨hw, hg, hs⟩ := legal_mem.1 hm
  obtain ⟨q1, q2, q3, q4⟩ := legal_next hm
  rcases h : makeP p (mviOf m) with ⟨q, c, er⟩
  rw [h] at q1 q2 q3 q4
  simp only at q1 q2 q3 q4
  subst q4
  exact ⟨q, c, rfl, q3, okMv hw hs h, q1, q2⟩
/-- The moves that take something. -/
def takeL (s : ByteArray) (l : List Mv) : List Mv := l.filter (fun m => cel s m.2 != 46)
def bestF (f : Mv → Int) (b : Int) (l : List Mv) : Int := l.foldl (fun b m => max b (f m)) b
theorem bestF_cons (f : Mv → Int) (b : Int) (m : Mv) (l : List Mv) : bestF f b (m :: l) = bestF f (max b (f m)) l := rfl
theorem bestF_snoc (f : Mv → Int) (b : Int) (m : Mv) (l : List Mv) : bestF f b (l ++ [m]) = max (bestF f b l) (f m) := by simp [bestF]
theorem bestF_le (f : Mv → Int) (l : List Mv) : ∀ b, b ≤ bestF f b l := by
  induction l with
  | nil => exact fun b => Int.le_refl _
  | cons m r ih => exact fun b => Int.le_trans (Int.le_max_left b (f m)) (ih _)
theorem bestF_perm (f : Mv → Int) {l k : List Mv} (h : l.Perm k) : ∀ b, bestF f b l = bestF f b k := by
  induction h with
  | nil => exact fun _ => rfl
  | cons m _ ih => exact fun b => ih _
  | swap m n l => intro b; show bestF f (max (max b (f n)) (f m)) l = bestF f (max (max b (f m)) (f n)) l; congr 1; omega
  | trans _ _ ih1 ih2 => exact fun b => (ih1 b).trans (ih2 b)
theorem bestF_congr {f g : Mv → Int} (l : List Mv) (h : ∀ m ∈ l, f m = g m) : ∀ b, bestF f b l = bestF g b l := by
  induction l with
  | nil => exact fun _ => rfl
  | cons m r ih =>
    intro b
    show bestF f (max b (f m)) r = bestF g (max b (g m)) r
    rw [h m List.mem_cons_self, ih (fun x hx => h x (List.mem_cons_of_mem _ hx))]
theorem bestF_in (f : Mv → Int) (lo hi : Int) (l : List Mv) (h : ∀ m ∈ l, lo ≤ f m ∧ f m ≤ hi) : ∀ b, lo ≤ b → b ≤ hi → lo ≤ bestF f b l ∧ bestF f b l ≤ hi := by
  induction l with
  | nil => exact fun b h1 h2 => ⟨h1, h2⟩
  | cons m r ih =>
    intro b h1 h2
    have := h m List.mem_cons_self
    exact ih (fun x hx => h x (List.mem_cons_of_mem _ hx)) (max b (f m)) (by omega) (by omega)
/-- What a board is worth to the side whose move it is, so many captures deep. -/
def quietF : Nat → ByteArray → Int → Int
  | 0, _, _ => 0
  | k + 1, s, a => if legalR s a = [] then -10000 else bestF (fun m => - quietF k (movedB s m.1 m.2) (1 - a)) (valS s a) (takeL s (legalR s a))
theorem quietF_le : ∀ (k : Nat) (s : ByteArray) (a : Int), -30000 ≤ quietF k s a ∧ quietF k s a ≤ 30000
  | 0, _, _ => by unfold quietF; omega
  | k + 1, s, a => by
    have hv := valS_le s a
    unfold quietF
    split
    · omega
    · exact bestF_in _ _ _ _ (fun m _ => by have := quietF_le k (movedB s m.1 m.2) (1 - a); omega) _ (by omega) (by omega)
/-- A capture of a move that may be made: one piece less. -/
theorem take_less {p : Pos} (hw : wellS p = 0) {m : Mv} (hm : m ∈ takeL p.cells (legalR p.cells p.side)) : ∃ q : Pos, q.cells = movedB p.cells m.1 m.2 ∧ q.side = 1 - p.side ∧ wellS q = 0 ∧ nP q.cells + 1 = nP p.cells ∧ m ∈ legalL p := by
  obtain ⟨h1, h2⟩ := List.mem_filter.1 hm
  have hl : m ∈ legalL p := by rw [legal_eq hw]; exact h1
  obtain ⟨q, c, hmk, hwq, hok, hqc, hqs⟩ := legal_step8 hl
  have hc := hok.count
  have h46 : cel p.cells m.2 ≠ 46 := by simpa using h2
  have hcne : c ≠ 0 := by
    rw [hok.tk, if_neg h46]
    have hz : ∀ x ∈ letters, x ≠ 0 := by decide
    exact hz _ (board_cell hok.bd hok.b90)
  rw [if_neg hcne] at hc
  exact ⟨q, hqc, hqs, hwq, hc, hl⟩
/-- Deep enough is deep enough. -/
theorem quietF_more : ∀ (k : Nat) (p : Pos), wellS p = 0 → nP p.cells ≤ k → ∀ j, quietF (k + 1 + j) p.cells p.side = quietF (k + 1) p.cells p.side
  | 0, p, hw, hn, j => by
    rw [show 0 + 1 + j = j + 1 by omega]
    unfold quietF
    have he : takeL p.cells (legalR p.cells p.side) = [] := List.eq_nil_iff_forall_not_mem.2 (fun m hm => by
      obtain ⟨q, _, _, _, h, _⟩ := take_less hw hm
      omega)
    rw [he]
    rfl
  | k + 1, p, hw, hn, j => by
    rw [show k + 1 + 1 + j = (k + 1 + j) + 1 by omega]
    unfold quietF
    split
    · rfl
    · refine bestF_congr _ (fun m hm => ?_) _
      obtain ⟨q, hc, hs, hwq, h, _⟩ := take_less hw hm
      rw [← hc, ← hs]
      have := quietF_more k q hwq (by omega) j
      rw [this]
def quietP (p : Pos) : Int := quietF (nP p.cells + 1) p.cells p.side
theorem quietP_le (p : Pos) : -30000 ≤ quietP p ∧ quietP p ≤ 30000 := quietF_le _ _ _
theorem quietP_deep {p : Pos} (hw : wellS p = 0) {k : Nat} (hk : nP p.cells ≤ k) : quietF (k + 1) p.cells p.side = quietP p := by
  have := quietF_more (nP p.cells) p hw (Nat.le_refl _) (k - nP p.cells)
  rw [show nP p.cells + 1 + (k - nP p.cells) = k + 1 by omega] at this
  exact this
theorem quietP_no {p : Pos} (h : legalR p.cells p.side = []) : quietP p = -10000 := by unfold quietP quietF; rw [if_pos h]
theorem quietP_eq {p : Pos} (hw : wellS p = 0) (h : legalR p.cells p.side ≠ []) : ∃ f : Mv → Int, quietP p = bestF f (valS p.cells p.side) (takeL p.cells (legalR p.cells p.side)) ∧ ∀ m ∈ takeL p.cells (legalR p.cells p.side), ∀ q : Pos, q.cells = movedB p.cells m.1 m.2 → q.side = 1 - p.side → wellS q = 0 → f m = - quietP q := by
  refine ⟨fun m => - quietF (nP p.cells) (movedB p.cells m.1 m.2) (1 - p.side), if_neg h, fun m hm q hc hs hwq => ?_⟩
  obtain ⟨q', hc', _, _, hn, _⟩ := take_less hw hm
  have e : q.cells = q'.cells := by rw [hc, hc']
  show - quietF (nP p.cells) (movedB p.cells m.1 m.2) (1 - p.side) = - quietP q
  rw [← hc, ← hs, show nP p.cells = (nP p.cells - 1) + 1 by omega, quietP_deep hwq (by rw [e]; omega)]
/-- What of a value lies between two bounds. -/
def clipI (v low high : Int) : Int := min (max v low) high
theorem clip_neg (v low high : Int) (h : low ≤ high) : - clipI v (-high) (-low) = clipI (-v) low high := by unfold clipI; omega
/-- A round of within. -/
theorem within_round {cur high low b v : Int} (h1 : cur < high) (h2 : min cur high = min (max b low) high) : min (max cur (clipI v cur high)) high = min (max (max b v) low) high := by
  unfold clipI; omega
/-- Cut off: more can't be told. -/
theorem within_cut {cur high low b b2 : Int} (h1 : high ≤ cur) (h2 : min cur high = min (max b low) high) (h3 : b ≤ b2) : high = clipI b2 low high := by
  unfold clipI; omega
theorem within_end {cur high low b : Int} (h2 : min cur high = min (max b low) high) : min cur high = clipI b low high := h2
end Go.Proofs.YtafmapadkpjliaaGreatDoor.K

/- Plain law: of few pieces there are few captures. -/
namespace Go.Proofs.YtafmapadkpjliaaGreatDoor.K
open Go.RowKit Go.Lib Go.Proofs.YtafmapadkpjliaaGreatDoorW.PrintWords Go.Proofs.YtafmapadkpjliaaGreatDoor.Sp
set_option linter.unusedVariables false
set_option linter.unusedSimpArgs false
theorem filter_imp_len {α : Type} (f g : α → Bool) (l : List α) (h : ∀ x ∈ l, f x = true → g x = true) : (l.filter f).length ≤ (l.filter g).length := by
  rw [← List.countP_eq_length_filter, ← List.countP_eq_length_filter]
  induction l with
  | nil => simp
  | cons x r ih =>
    have h1 := ih (fun y hy => h y (List.mem_cons_of_mem _ hy))
    have h2 := h x List.mem_cons_self
    simp only [List.countP_cons]
    cases hf : f x
    · simp only [Bool.false_eq_true, if_false]; omega
    · rw [h2 hf]; simp only [if_true]; omega
theorem take_from {s : ByteArray} (hs : isBoard s = true) {a : Int} (ha : a = 0 ∨ a = 1) (x : Nat) (hx : x < 90) : (fromM s a (fun c => c != 46) x).length ≤ if sideN (cel s x) = a then (piecesS s (1 - a)).length else 0 := by
  unfold fromM
  split
  · rename_i hsx
    rw [List.length_map]
    unfold allN piecesS
    rw [if_pos hs, List.filter_filter]
    refine filter_imp_len _ _ _ (fun b hb hq => ?_)
    have hb90 : b < 90 := List.mem_range.1 hb
    simp only [Bool.and_eq_true, bne_iff_ne, ne_eq, decide_eq_true_eq] at hq ⊢
    obtain ⟨h46, hf⟩ := hq
    unfold fastN at hf
    simp only [Bool.and_eq_true, bne_iff_ne, ne_eq, decide_eq_true_eq] at hf
    have hne : sideN (cel s b) ≠ a := by rw [← hsx]; exact hf.1.2
    refine ⟨by omega, ?_⟩
    rcases letter_side _ (board_cell hs hb90) with ⟨h1, _⟩ | ⟨_, h1⟩ | ⟨_, h1⟩
    · exact absurd h1 h46
    · omega
    · omega
  · simp
theorem take_sum {s : ByteArray} (hs : isBoard s = true) {a : Int} (ha : a = 0 ∨ a = 1) (n : Nat) (hn : n ≤ 90) : (gathM s a (fun c => c != 46) n).length ≤ ((List.range n).filter (fun i => decide (sideN (cel s i) = a))).length * (piecesS s (1 - a)).length := by
  induction n with
  | zero => simp [gathM]
  | succ n ih =>
    have h1 := ih (by omega)
    have h2 := take_from hs ha n (by omega)
    rw [gathM_succ, List.length_append, List.range_succ, List.filter_append, List.length_append]
    by_cases hsn : sideN (cel s n) = a
    · rw [if_pos hsn] at h2
      have e : ([n].filter (fun i => decide (sideN (cel s i) = a))).length = 1 := by simp [hsn]
      rw [e, Nat.add_mul, Nat.one_mul]
      omega
    · rw [if_neg hsn] at h2
      have e : ([n].filter (fun i => decide (sideN (cel s i) = a))).length = 0 := by simp [hsn]
      rw [e, Nat.add_zero]
      omega
theorem prod_20 : ∀ x : Fin 10, ∀ y : Fin 10, x.val + y.val ≤ 9 → x.val * y.val ≤ 20 := by decide
/-- At most 9 pieces: at most 20 captures. -/
theorem take_20 {p : Pos} (hw : wellS p = 0) (hn : nP p.cells ≤ 9) : (takeL p.cells (legalL p)).length ≤ 20 := by
  obtain ⟨hbd, hsd, _⟩ := argOk_yes (checkP_board (well_check hw))
  have h1 : (takeL p.cells (legalL p)).length ≤ (gathM p.cells p.side (fun c => c != 46) 90).length := by
    rw [legal_eq hw]
    unfold takeL legalR
    rw [List.filter_filter]
    have e : gathM p.cells p.side (fun c => c != 46) 90 = (gathM p.cells p.side (fun _ => true) 90).filter (fun m => cel p.cells m.2 != 46) := by
      unfold gathM
      rw [List.filter_flatMap]
      congr 1
      funext x
      unfold fromM
      split
      · rw [List.filter_map, List.filter_filter]
        congr 1
        refine List.filter_congr (fun b _ => ?_)
        simp
      · rfl
    rw [e]
    exact filter_imp_len _ _ _ (fun m _ h => by simp only [Bool.and_eq_true] at h; exact h.1)
  have h2 := take_sum hbd hsd 90 (Nat.le_refl _)
  have h3 : ((List.range 90).filter (fun i => decide (sideN (cel p.cells i) = p.side))).length = (piecesS p.cells p.side).length := by
    unfold piecesS
    rw [if_pos hbd]
    congr 1
    refine List.filter_congr (fun i _ => ?_)
    rcases hsd with h | h <;> rw [h] <;> simp
  rw [h3] at h2
  have h4 : (piecesS p.cells p.side).length + (piecesS p.cells (1 - p.side)).length ≤ 9 := by
    unfold nP at hn
    rcases hsd with h | h
    · rw [h, show ((1 : Int) - 0) = 1 from rfl]; exact hn
    · rw [h, show ((1 : Int) - 1) = 0 from rfl]; omega
  have h5 := prod_20 ⟨(piecesS p.cells p.side).length, by omega⟩ ⟨(piecesS p.cells (1 - p.side)).length, by omega⟩ h4
  simp only at h5
  omega
end Go.Proofs.YtafmapadkpjliaaGreatDoor.K

/- Plain law of wxf: a move's text. -/
namespace Go.Proofs.YtafmapadkpjliaaGreatDoor.K
open Go.RowKit Go.Lib Go.Proofs.YtafmapadkpjliaaGreatDoorW.PrintWords Go.Proofs.YtafmapadkpjliaaGreatDoor.Sp
set_option linter.unusedVariables false
set_option linter.unusedSimpArgs false
/-- A file's number, seen from a side. -/
def fileA (n : Nat) (a : Int) : Nat := if a = 1 then n % 9 + 1 else 9 - n % 9
/-- How many ranks ahead a move goes. -/
def aheadA (m : Mv) (a : Int) : Int := if a = 1 then ((m.1 / 9 : Nat) : Int) - ((m.2 / 9 : Nat) : Int) else ((m.2 / 9 : Nat) : Int) - ((m.1 / 9 : Nat) : Int)
/-- The squares of a piece on a file. -/
def likeN (s : ByteArray) (c f : Nat) : List Nat := (List.range 90).filter (fun i => cel s i == c && i % 9 == f)
/-- .. from the front on. -/
def likeA (s : ByteArray) (c f : Nat) (a : Int) : List Nat := if a = 1 then likeN s c f else (likeN s c f).reverse
/-- How many files have two or more of a piece. -/
def tandemN (s : ByteArray) (c : Nat) : Nat := ((List.range 9).filter (fun f => decide (2 ≤ (likeN s c f).length))).length
def placeA (s : ByteArray) (n : Nat) (a : Int) : Nat := (likeA s (cel s n) (n % 9) a).idxOf n
def manyA (s : ByteArray) (n : Nat) : Nat := (likeN s (cel s n) (n % 9)).length
def fourK (k : Nat) : Bool := k == 78 || k == 82 || k == 67 || k == 80
/-- The two bytes that tell the piece on a square. -/
def pieceT (s : ByteArray) (n : Nat) (a : Int) : List Nat :=
  if fourK (kindN (cel s n)) = true ∧ 2 ≤ manyA s n then
    (if manyA s n = 2 ∧ tandemN s (cel s n) = 1 then [if placeA s n a = 0 then 43 else 45, kindN (cel s n)] else [49 + placeA s n a, 48 + fileA n a])
  else [kindN (cel s n), 48 + fileA n a]
/-- The two that tell where it goes. -/
def wayT (s : ByteArray) (m : Mv) (a : Int) : List Nat :=
  if aheadA m a = 0 then [61, 48 + fileA m.2 a]
  else [if 0 < aheadA m a then 43 else 45, if kindN (cel s m.1) = 75 ∨ kindN (cel s m.1) = 82 ∨ kindN (cel s m.1) = 67 ∨ kindN (cel s m.1) = 80 then 48 + (aheadA m a).natAbs else 48 + fileA m.2 a]
def textT (s : ByteArray) (m : Mv) (a : Int) : List Nat := pieceT s m.1 a ++ wayT s m a
theorem piece_len (s : ByteArray) (n : Nat) (a : Int) : (pieceT s n a).length = 2 := by
  unfold pieceT
  repeat' split
  all_goals rfl
theorem way_len (s : ByteArray) (m : Mv) (a : Int) : (wayT s m a).length = 2 := by
  unfold wayT
  repeat' split
  all_goals rfl
theorem text_len (s : ByteArray) (m : Mv) (a : Int) : (textT s m a).length = 4 := by unfold textT; rw [List.length_append, piece_len, way_len]
theorem like_mem {s : ByteArray} {c f n : Nat} : n ∈ likeN s c f ↔ n < 90 ∧ cel s n = c ∧ n % 9 = f := by
  unfold likeN
  rw [List.mem_filter, List.mem_range]
  simp
theorem likeA_mem {s : ByteArray} {c f n : Nat} {a : Int} : n ∈ likeA s c f a ↔ n < 90 ∧ cel s n = c ∧ n % 9 = f := by
  unfold likeA
  split
  · exact like_mem
  · rw [List.mem_reverse]; exact like_mem
theorem likeA_len (s : ByteArray) (c f : Nat) (a : Int) : (likeA s c f a).length = (likeN s c f).length := by
  unfold likeA
  split
  · rfl
  · rw [List.length_reverse]
/-- What a letter is, by its kind and its side. -/
theorem letter_one : ∀ x ∈ letters, ∀ y ∈ letters, sideN x = sideN y → kindN x = kindN y → 0 ≤ sideN x → x = y := by decide
theorem kind_big : ∀ x ∈ letters, 0 ≤ sideN x → 65 ≤ kindN x := by decide
theorem place_inj {l : List Nat} {n k : Nat} (hn : n ∈ l) (hk : k ∈ l) (h : l.idxOf n = l.idxOf k) : n = k := by
  have h1 := List.getElem_idxOf (List.idxOf_lt_length_of_mem hn)
  have h2 := List.getElem_idxOf (List.idxOf_lt_length_of_mem hk)
  rw [← h1, ← h2]
  simp only [h]
theorem like_le (s : ByteArray) (c f : Nat) : (likeN s c f).length ≤ cntX s 90 c := by
  unfold likeN cntX
  rw [← List.countP_eq_length_filter]
  exact List.countP_mono_left (fun x _ h => by simp only [Bool.and_eq_true] at h; exact h.1)
/-- Two files' pieces are together no more than all. -/
theorem like_two (s : ByteArray) (c f g : Nat) (h : f ≠ g) : (likeN s c f).length + (likeN s c g).length ≤ cntX s 90 c := by
  unfold likeN cntX
  rw [← List.countP_eq_length_filter, ← List.countP_eq_length_filter]
  have key : ∀ l : List Nat, l.countP (fun i => cel s i == c && i % 9 == f) + l.countP (fun i => cel s i == c && i % 9 == g) ≤ l.countP (fun i => cel s i == c) := by
    intro l
    induction l with
    | nil => simp
    | cons x r ih =>
      simp only [List.countP_cons]
      cases hx : (cel s x == c)
      · simp only [Bool.false_and, Bool.false_eq_true, if_false]; omega
      · simp only [Bool.true_and]
        by_cases h1 : x % 9 = f
        · have h2 : ¬ (x % 9 = g) := fun h2 => h (h1.symm.trans h2)
          simp [h1, h]; omega
        · by_cases h2 : x % 9 = g
          · simp [h2, Ne.symm h]; omega
          · simp [h1, h2]; omega
  exact key _
/-- One tandem: the file is told. -/
theorem tandem_one {s : ByteArray} {c f g : Nat} (h : tandemN s c = 1) (hf : f < 9) (hg : g < 9) (h1 : 2 ≤ (likeN s c f).length) (h2 : 2 ≤ (likeN s c g).length) : f = g := by
  unfold tandemN at h
  obtain ⟨x, hx⟩ := List.length_eq_one_iff.1 h
  have hfm : f ∈ (List.range 9).filter (fun f => decide (2 ≤ (likeN s c f).length)) := List.mem_filter.2 ⟨List.mem_range.2 hf, by simpa using h1⟩
  have hgm : g ∈ (List.range 9).filter (fun f => decide (2 ≤ (likeN s c f).length)) := List.mem_filter.2 ⟨List.mem_range.2 hg, by simpa using h2⟩
  rw [hx] at hfm hgm
  rw [List.mem_singleton.1 hfm, List.mem_singleton.1 hgm]
/-- Two pieces at most: no more than one tandem. -/
theorem tandem_few {s : ByteArray} {c f : Nat} (hc : cntX s 90 c ≤ 2) (hf : f < 9) (h : 2 ≤ (likeN s c f).length) : tandemN s c = 1 := by
  unfold tandemN
  have key : ∀ g, g < 9 → (decide (2 ≤ (likeN s c g).length)) = (g == f) := by
    intro g hg
    by_cases he : g = f
    · subst he; simpa using h
    · have := like_two s c f g (Ne.symm he)
      have h3 : ¬ 2 ≤ (likeN s c g).length := by omega
      rw [decide_eq_false h3]
      exact (beq_eq_false_iff_ne.2 he).symm
  rw [List.filter_congr (q := fun g => g == f) (fun g hg => key g (List.mem_range.1 hg))]
  have : ∀ f, f < 9 → ((List.range 9).filter (fun g => g == f)).length = 1 := by decide
  exact this f hf
end Go.Proofs.YtafmapadkpjliaaGreatDoor.K

/- Plain law of wxf: no two moves that may be made have one text. -/
namespace Go.Proofs.YtafmapadkpjliaaGreatDoor.K
open Go.RowKit Go.Lib Go.Proofs.YtafmapadkpjliaaGreatDoorW.PrintWords Go.Proofs.YtafmapadkpjliaaGreatDoor.Sp
set_option linter.unusedVariables false
set_option linter.unusedSimpArgs false
theorem fileA_inj {n k : Nat} {a : Int} (h : fileA n a = fileA k a) : n % 9 = k % 9 := by
  unfold fileA at h
  split at h <;> omega
theorem one_same {l : List Nat} (h : l.length ≤ 1) {n k : Nat} (hn : n ∈ l) (hk : k ∈ l) : n = k := by
  match l, h with
  | [], _ => simp at hn
  | [x], _ => rw [List.mem_singleton.1 hn, List.mem_singleton.1 hk]
/-- What is known of a board's own pieces. -/
structure OwnP (s : ByteArray) (a : Int) : Prop where
  bd : isBoard s = true
  sd : a = 0 ∨ a = 1
  cnt : ∀ x ∈ pieces14, cntX s 90 x ≤ mostN x
  may : ∀ n, n < 90 → cel s n = 46 ∨ mayN (cel s n) n = true
theorem ownP_of {p : Pos} (hck : checkP p = 0) : OwnP p.cells p.side := by
  obtain ⟨h1, h2, h3⟩ := checkP_parts hck
  obtain ⟨hbd, hsd, _⟩ := argOk_yes h1
  refine ⟨hbd, hsd, fun x hx => ?_, h3⟩
  have := h2 x hx
  unfold badX at this
  simp only [Bool.or_eq_false_iff, decide_eq_false_iff_not] at this
  omega
theorem piece14_of : ∀ x ∈ letters, 0 ≤ sideN x → x ∈ pieces14 := by decide
theorem mostN_kind {x : Nat} (h : 0 < kindN x) : mostN x ≤ 5 ∧ (kindN x ≠ 80 → mostN x ≤ 2) ∧ (kindN x = 75 → mostN x ≤ 1) := by
  unfold mostN
  repeat' split
  all_goals omega
theorem kinds_of : ∀ x ∈ letters, 0 ≤ sideN x → kindN x = 75 ∨ kindN x = 65 ∨ kindN x = 66 ∨ kindN x = 78 ∨ kindN x = 82 ∨ kindN x = 67 ∨ kindN x = 80 := by decide
theorem piece_apart {s : ByteArray} {a : Int} (H : OwnP s a) {n k : Nat} (hn : n < 90) (hk : k < 90) (on : sideN (cel s n) = a) (ok : sideN (cel s k) = a) (h : pieceT s n a = pieceT s k a) :
    cel s n = cel s k ∧ n % 9 = k % 9 ∧ (n = k ∨ kindN (cel s n) = 65 ∨ kindN (cel s n) = 66) := by
  have hsd := H.sd
  have ln := board_cell H.bd hn
  have lk := board_cell H.bd hk
  have bn := kind_big _ ln (by omega)
  have bk := kind_big _ lk (by omega)
  have kn := kinds_of _ ln (by omega)
  have cn := H.cnt _ (piece14_of _ ln (by omega))
  have ck := H.cnt _ (piece14_of _ lk (by omega))
  have mn := mostN_kind (x := cel s n) (by omega)
  have mk := mostN_kind (x := cel s k) (by omega)
  have lln := like_le s (cel s n) (n % 9)
  have llk := like_le s (cel s k) (k % 9)
  have mem_n : n ∈ likeA s (cel s n) (n % 9) a := likeA_mem.2 ⟨hn, rfl, rfl⟩
  have mem_k : k ∈ likeA s (cel s k) (k % 9) a := likeA_mem.2 ⟨hk, rfl, rfl⟩
  have pn : placeA s n a < manyA s n := by
    have := List.idxOf_lt_length_of_mem mem_n
    rw [likeA_len] at this
    exact this
  have pk : placeA s k a < manyA s k := by
    have := List.idxOf_lt_length_of_mem mem_k
    rw [likeA_len] at this
    exact this
  have en : manyA s n = (likeN s (cel s n) (n % 9)).length := rfl
  have ek : manyA s k = (likeN s (cel s k) (k % 9)).length := rfl
  have hc : kindN (cel s n) = kindN (cel s k) → cel s n = cel s k := fun h => letter_one _ ln _ lk (by omega) h (by omega)
  -- the same squares, if place and file are the same
  have hpl : cel s n = cel s k → n % 9 = k % 9 → placeA s n a = placeA s k a → n = k := by
    intro h1 h2 h3
    unfold placeA at h3
    rw [h1, h2] at h3
    rw [h1, h2] at mem_n
    exact place_inj mem_n mem_k h3
  unfold pieceT at h
  by_cases hA : fourK (kindN (cel s n)) = true ∧ 2 ≤ manyA s n
  · rw [if_pos hA] at h
    by_cases hA' : fourK (kindN (cel s k)) = true ∧ 2 ≤ manyA s k
    · rw [if_pos hA'] at h
      by_cases hB : manyA s n = 2 ∧ tandemN s (cel s n) = 1
      · rw [if_pos hB] at h
        by_cases hB' : manyA s k = 2 ∧ tandemN s (cel s k) = 1
        · rw [if_pos hB'] at h
          simp only [List.cons.injEq, and_true] at h
          have e1 := hc h.2
          have e2 : n % 9 = k % 9 := tandem_one hB.2 (by omega) (by omega) (by omega) (by rw [e1]; omega)
          refine ⟨e1, e2, .inl (hpl e1 e2 ?_)⟩
          have h1 := h.1
          by_cases z1 : placeA s n a = 0 <;> by_cases z2 : placeA s k a = 0
          · omega
          · rw [if_pos z1, if_neg z2] at h1; omega
          · rw [if_neg z1, if_pos z2] at h1; omega
          · omega
        · rw [if_neg hB'] at h
          simp only [List.cons.injEq, and_true] at h
          have h1 := h.1
          split at h1 <;> omega
      · rw [if_neg hB] at h
        by_cases hB' : manyA s k = 2 ∧ tandemN s (cel s k) = 1
        · rw [if_pos hB'] at h
          simp only [List.cons.injEq, and_true] at h
          have h1 := h.1
          split at h1 <;> omega
        · rw [if_neg hB'] at h
          simp only [List.cons.injEq, and_true] at h
          have e2 := fileA_inj (a := a) (n := n) (k := k) (by omega)
          have k1 : kindN (cel s n) = 80 := by
            by_cases h80 : kindN (cel s n) = 80
            · exact h80
            · exact absurd ⟨by have := mn.2.1 h80; omega, tandem_few (f := n % 9) (by have := mn.2.1 h80; omega) (by omega) (by omega)⟩ hB
          have k2 : kindN (cel s k) = 80 := by
            by_cases h80 : kindN (cel s k) = 80
            · exact h80
            · exact absurd ⟨by have := mk.2.1 h80; omega, tandem_few (f := k % 9) (by have := mk.2.1 h80; omega) (by omega) (by omega)⟩ hB'
          have e1 := hc (by omega)
          exact ⟨e1, e2, .inl (hpl e1 e2 (by omega))⟩
    · rw [if_neg hA'] at h
      exfalso
      by_cases hB : manyA s n = 2 ∧ tandemN s (cel s n) = 1
      · rw [if_pos hB] at h
        simp only [List.cons.injEq, and_true] at h
        have h1 := h.1
        split at h1 <;> omega
      · rw [if_neg hB] at h
        simp only [List.cons.injEq, and_true] at h
        omega
  · rw [if_neg hA] at h
    by_cases hA' : fourK (kindN (cel s k)) = true ∧ 2 ≤ manyA s k
    · rw [if_pos hA'] at h
      exfalso
      by_cases hB : manyA s k = 2 ∧ tandemN s (cel s k) = 1
      · rw [if_pos hB] at h
        simp only [List.cons.injEq, and_true] at h
        have h1 := h.1
        split at h1 <;> omega
      · rw [if_neg hB] at h
        simp only [List.cons.injEq, and_true] at h
        omega
    · rw [if_neg hA'] at h
      simp only [List.cons.injEq, and_true] at h
      have e1 := hc h.1
      have e2 := fileA_inj (a := a) (n := n) (k := k) (by omega)
      refine ⟨e1, e2, ?_⟩
      rcases kn with h75 | h65 | h66 | h4
      · have hl : (likeN s (cel s n) (n % 9)).length ≤ 1 := by have := mn.2.2 h75; omega
        exact .inl (one_same hl (like_mem.2 ⟨hn, rfl, rfl⟩) (like_mem.2 ⟨hk, e1.symm, e2.symm⟩))
      · exact .inr (.inl h65)
      · exact .inr (.inr h66)
      · have h4' : fourK (kindN (cel s n)) = true := by
          unfold fourK
          rcases h4 with h | h | h | h <;> rw [h] <;> rfl
        have hl : (likeN s (cel s n) (n % 9)).length ≤ 1 := by
          have : ¬ 2 ≤ manyA s n := fun h => hA ⟨h4', h⟩
          omega
        exact .inl (one_same hl (like_mem.2 ⟨hn, rfl, rfl⟩) (like_mem.2 ⟨hk, e1.symm, e2.symm⟩))
/-- The squares on which a piece may stand. -/
def mayL (x : Nat) : List Nat := (List.range 90).filter (mayN x)
theorem mayL_mem {x n : Nat} (hn : n < 90) (h : mayN x n = true) : n ∈ mayL x := List.mem_filter.2 ⟨List.mem_range.2 hn, h⟩
/-- Advisors, elephants: two on one file go apart. -/
theorem adv_apart : ∀ x ∈ [65, 97], ∀ n ∈ mayL x, ∀ k ∈ mayL x, ∀ t ∈ mayL x, ∀ u ∈ mayL x, (n % 9 == k % 9 && t % 9 == u % 9 && away (n % 9) (t % 9) == 1 && away (n / 9) (t / 9) == 1 && away (k % 9) (u % 9) == 1 && away (k / 9) (u / 9) == 1 && (decide (n / 9 < t / 9) == decide (k / 9 < u / 9))) = true → n = k ∧ t = u := by decide +kernel
theorem ele_apart : ∀ x ∈ [66, 98], ∀ n ∈ mayL x, ∀ k ∈ mayL x, ∀ t ∈ mayL x, ∀ u ∈ mayL x, (n % 9 == k % 9 && t % 9 == u % 9 && away (n % 9) (t % 9) == 2 && away (n / 9) (t / 9) == 2 && away (k % 9) (u % 9) == 2 && away (k / 9) (u / 9) == 2 && (decide (n / 9 < t / 9) == decide (k / 9 < u / 9))) = true → n = k ∧ t = u := by decide +kernel
theorem kind_65 : ∀ x ∈ letters, kindN x = 65 → x ∈ [65, 97] := by decide
theorem kind_66 : ∀ x ∈ letters, kindN x = 66 → x ∈ [66, 98] := by decide
/-- What the last two bytes tell. -/
theorem way_tells {s : ByteArray} {a : Int} {m u : Mv} (hk : kindN (cel s m.1) = kindN (cel s u.1)) (h : wayT s m a = wayT s u a) :
    (aheadA m a = 0 ↔ aheadA u a = 0) ∧ (0 < aheadA m a ↔ 0 < aheadA u a) ∧
    ((aheadA m a = 0 ∨ ¬ (kindN (cel s m.1) = 75 ∨ kindN (cel s m.1) = 82 ∨ kindN (cel s m.1) = 67 ∨ kindN (cel s m.1) = 80)) → m.2 % 9 = u.2 % 9) ∧
    ((kindN (cel s m.1) = 75 ∨ kindN (cel s m.1) = 82 ∨ kindN (cel s m.1) = 67 ∨ kindN (cel s m.1) = 80) → aheadA m a ≠ 0 → aheadA m a = aheadA u a) := by
  unfold wayT at h
  rw [← hk] at h
  by_cases h1 : aheadA m a = 0
  · rw [if_pos h1] at h
    by_cases h2 : aheadA u a = 0
    · rw [if_pos h2] at h
      simp only [List.cons.injEq, and_true] at h
      have := fileA_inj (n := m.2) (k := u.2) (a := a) (by omega)
      exact ⟨by omega, by omega, fun _ => this, fun _ h3 => absurd h1 h3⟩
    · rw [if_neg h2] at h
      simp only [List.cons.injEq, and_true] at h
      exfalso
      have h3 := h.1
      split at h3 <;> omega
  · rw [if_neg h1] at h
    by_cases h2 : aheadA u a = 0
    · rw [if_pos h2] at h
      simp only [List.cons.injEq, and_true] at h
      exfalso
      have h3 := h.1
      split at h3 <;> omega
    · rw [if_neg h2] at h
      simp only [List.cons.injEq, and_true] at h
      obtain ⟨h3, h4⟩ := h
      have hp : 0 < aheadA m a ↔ 0 < aheadA u a := by
        by_cases q1 : 0 < aheadA m a <;> by_cases q2 : 0 < aheadA u a
        · omega
        · rw [if_pos q1, if_neg q2] at h3; omega
        · rw [if_neg q1, if_pos q2] at h3; omega
        · omega
      by_cases h5 : kindN (cel s m.1) = 75 ∨ kindN (cel s m.1) = 82 ∨ kindN (cel s m.1) = 67 ∨ kindN (cel s m.1) = 80
      · rw [if_pos h5, if_pos h5] at h4
        exact ⟨by omega, hp, fun h6 => h6.elim (fun h7 => absurd h7 h1) (fun h7 => absurd h5 h7), fun _ _ => by omega⟩
      · rw [if_neg h5, if_neg h5] at h4
        have := fileA_inj (n := m.2) (k := u.2) (a := a) (by omega)
        exact ⟨by omega, hp, fun _ => this, fun h6 => absurd h6 h5⟩
theorem away_nat (a b : Nat) : away a b = (a - b) + (b - a) := by
  unfold away; split <;> omega
theorem betw_line {c : Nat → Nat} {a b : Nat} (h : 0 ≤ betwN c a b) : a / 9 = b / 9 ∨ a % 9 = b % 9 := by
  unfold betwN at h
  split at h
  · omega
  · split at h
    · assumption
    · omega
theorem king_col {n t : Nat} (h : away (n % 9) (t % 9) + away (n / 9) (t / 9) = 1) (hr : t / 9 ≠ n / 9) : t % 9 = n % 9 := by
  rw [away_nat, away_nat] at h; omega
theorem line_col {c : Nat → Nat} {n t : Nat} (h : 0 ≤ betwN c n t) (hr : t / 9 ≠ n / 9) : t % 9 = n % 9 := by
  rcases betw_line h with h | h
  · exact absurd h.symm hr
  · exact h.symm
theorem pawn_col {g : Int} {n t : Nat} (h : pawnN g n t = true) (hr : t / 9 ≠ n / 9) : t % 9 = n % 9 := by
  unfold pawnN at h
  simp only [Bool.or_eq_true, Bool.and_eq_true, beq_iff_eq] at h
  rcases h with h | h
  · split at h
    · have := beq_iff_eq.1 h; omega
    · have := beq_iff_eq.1 h; omega
  · exact absurd h.1.2.symm hr
theorem horse_row {n t v : Nat} (h1 : (away (n % 9) (t % 9) = 1 ∧ away (n / 9) (t / 9) = 2) ∨ (away (n % 9) (t % 9) = 2 ∧ away (n / 9) (t / 9) = 1)) (h2 : (away (n % 9) (v % 9) = 1 ∧ away (n / 9) (v / 9) = 2) ∨ (away (n % 9) (v % 9) = 2 ∧ away (n / 9) (v / 9) = 1)) (hf : t % 9 = v % 9) (hs : n / 9 < t / 9 ↔ n / 9 < v / 9) : t / 9 = v / 9 := by
  rw [hf] at h1
  have e : away (n / 9) (t / 9) = away (n / 9) (v / 9) := by
    rcases h1 with h | h <;> rcases h2 with k | k
    · exact h.2.trans k.2.symm
    · have := h.1.symm.trans k.1; omega
    · have := h.1.symm.trans k.1; omega
    · exact h.2.trans k.2.symm
  rw [away_nat, away_nat] at e
  generalize t / 9 = x at *
  generalize v / 9 = y at *
  generalize n / 9 = z at *
  clear h1 h2
  omega
theorem ahead_row {n t : Nat} {a r : Int} (h : r = if a = 1 then ((n / 9 : Nat) : Int) - ((t / 9 : Nat) : Int) else ((t / 9 : Nat) : Int) - ((n / 9 : Nat) : Int)) : (r = 0 ↔ t / 9 = n / 9) ∧ (0 < r ↔ if a = 1 then t / 9 < n / 9 else n / 9 < t / 9) := by
  generalize t / 9 = x at *
  generalize n / 9 = z at *
  split at h <;> rename_i ha
  · rw [if_pos ha]; omega
  · rw [if_neg ha]; omega
theorem ahead_same {n t v : Nat} {a r : Int} (h : r = if a = 1 then ((n / 9 : Nat) : Int) - ((t / 9 : Nat) : Int) else ((t / 9 : Nat) : Int) - ((n / 9 : Nat) : Int)) (h2 : r = if a = 1 then ((n / 9 : Nat) : Int) - ((v / 9 : Nat) : Int) else ((v / 9 : Nat) : Int) - ((n / 9 : Nat) : Int)) : t / 9 = v / 9 := by
  generalize t / 9 = x at *
  generalize n / 9 = z at *
  generalize v / 9 = y at *
  split at h <;> rename_i ha
  · rw [if_pos ha] at h2; omega
  · rw [if_neg ha] at h2; omega
/-- The ways of those that go on by ranks. -/
theorem four_to {n t v : Nat} {a r1 r2 : Int} (h1 : r1 = if a = 1 then ((n / 9 : Nat) : Int) - ((t / 9 : Nat) : Int) else ((t / 9 : Nat) : Int) - ((n / 9 : Nat) : Int)) (h2 : r2 = if a = 1 then ((n / 9 : Nat) : Int) - ((v / 9 : Nat) : Int) else ((v / 9 : Nat) : Int) - ((n / 9 : Nat) : Int))
    (w1 : r1 = 0 ↔ r2 = 0) (w3 : r1 = 0 → t % 9 = v % 9) (w4 : r1 ≠ 0 → r1 = r2) (c1 : t / 9 ≠ n / 9 → t % 9 = n % 9) (c2 : v / 9 ≠ n / 9 → v % 9 = n % 9) : t / 9 = v / 9 ∧ t % 9 = v % 9 := by
  have f1 := (ahead_row h1).1
  have f2 := (ahead_row h2).1
  by_cases hz : r1 = 0
  · exact ⟨(f1.1 hz).trans (f2.1 (w1.1 hz)).symm, w3 hz⟩
  · have e := w4 hz
    refine ⟨ahead_same h1 (e.trans h2), (c1 (fun h => hz (f1.2 h))).trans (c2 (fun h => hz (w1.2 (f2.2 h)))).symm⟩
/-- **No two moves have one text.** -/
theorem text_apart {p : Pos} (hck : checkP p = 0) {m u : Mv} (hm : m ∈ gathP p (fun _ => true)) (hu : u ∈ gathP p (fun _ => true)) (h : textT p.cells m p.side = textT p.cells u p.side) : m = u := by
  have H := ownP_of hck
  obtain ⟨_, a1, a2, a3, a4, _⟩ := gath_mem hm
  obtain ⟨_, b1, b2, b3, b4, _⟩ := gath_mem hu
  generalize p.cells = s at *
  generalize p.side = a at *
  have hsd := H.sd
  unfold textT at h
  obtain ⟨hp, hw⟩ := List.append_inj h (by rw [piece_len, piece_len])
  obtain ⟨hc, hf, hor⟩ := piece_apart H a1 b1 a3 b3 hp
  obtain ⟨w1, w2, w3, w4⟩ := way_tells (by rw [hc]) hw
  have ln := board_cell H.bd a1
  have kn := kinds_of _ ln (by omega)
  unfold fastN at a4 b4
  simp only [Bool.and_eq_true, bne_iff_ne, ne_eq, decide_eq_true_eq] at a4 b4
  have ca := a4.2
  have cb := b4.2
  unfold canN at ca cb
  rw [← hc] at cb
  obtain ⟨n, t⟩ := m
  obtain ⟨k, v⟩ := u
  simp only at *
  have hr1 : aheadA (n, t) a = if a = 1 then ((n / 9 : Nat) : Int) - ((t / 9 : Nat) : Int) else ((t / 9 : Nat) : Int) - ((n / 9 : Nat) : Int) := rfl
  have hr2 : aheadA (k, v) a = if a = 1 then ((k / 9 : Nat) : Int) - ((v / 9 : Nat) : Int) else ((v / 9 : Nat) : Int) - ((k / 9 : Nat) : Int) := rfl
  generalize aheadA (n, t) a = r1 at *
  generalize aheadA (k, v) a = r2 at *
  have mayof : ∀ x, x < 90 → sideN (cel s x) = a → mayN (cel s x) x = true := by
    intro x hx hs
    rcases H.may x hx with h46 | hh
    · rw [h46, show sideN 46 = -1 from by decide] at hs; omega
    · exact hh
  have fin : n = k → t / 9 = v / 9 ∧ t % 9 = v % 9 → ((n, t) : Mv) = (k, v) := by
    intro e1 e2
    rw [e1, show t = v by omega]
  have sgn : r1 ≠ 0 → (n / 9 < t / 9 ↔ k / 9 < v / 9) := by
    intro hz
    have f1 := ahead_row hr1
    have f2 := ahead_row hr2
    have g1 : t / 9 ≠ n / 9 := fun h => hz (f1.1.2 h)
    have g2 : v / 9 ≠ k / 9 := fun h => hz (w1.2 (f2.1.2 h))
    rcases hsd with rfl | rfl
    · have q1 := f1.2; have q2 := f2.2
      rw [if_neg (by decide)] at q1 q2
      exact q1.symm.trans (w2.trans q2)
    · have q1 := f1.2; have q2 := f2.2
      rw [if_pos rfl] at q1 q2
      have q3 := q1.symm.trans (w2.trans q2)
      generalize t / 9 = x at *
      generalize n / 9 = z at *
      generalize v / 9 = y at *
      generalize k / 9 = zz at *
      omega
  have nz : t / 9 ≠ n / 9 → r1 ≠ 0 := fun h hz => h ((ahead_row hr1).1.1 hz)
  clear hp hw h a4 b4
  rcases kn with h75 | h65 | h66 | h78 | h82 | h67 | h80
  · have hnk : n = k := by rcases hor with h | h | h <;> omega
    rw [if_pos h75] at ca cb
    simp only [Bool.and_eq_true, beq_iff_eq] at ca cb
    subst hnk
    exact fin rfl (four_to hr1 hr2 w1 (fun h => w3 (.inl h)) (w4 (.inl h75)) (king_col ca.1) (king_col cb.1))
  · have h1 := kind_65 _ ln h65
    rw [if_neg (by omega), if_pos h65] at ca cb
    simp only [Bool.and_eq_true, beq_iff_eq] at ca cb
    have e3 : t % 9 = v % 9 := w3 (.inr (by omega))
    have g1 : t / 9 ≠ n / 9 := by have := ca.1.2; rw [away_nat] at this; omega
    obtain ⟨e1, e2⟩ := adv_apart _ h1 n (mayL_mem a1 (mayof n a1 a3)) k (mayL_mem b1 (by rw [hc]; exact mayof k b1 b3)) t (mayL_mem a2 ca.2) v (mayL_mem b2 cb.2) (by
      simp only [Bool.and_eq_true, beq_iff_eq]
      exact ⟨⟨⟨⟨⟨⟨hf, e3⟩, ca.1.1⟩, ca.1.2⟩, cb.1.1⟩, cb.1.2⟩, decide_eq_decide.2 (sgn (nz g1))⟩)
    rw [e1, e2]
  · have h1 := kind_66 _ ln h66
    rw [if_neg (by omega), if_neg (by omega), if_pos h66] at ca cb
    simp only [Bool.and_eq_true, beq_iff_eq] at ca cb
    have e3 : t % 9 = v % 9 := w3 (.inr (by omega))
    have g1 : t / 9 ≠ n / 9 := by have := ca.1.1.2; rw [away_nat] at this; omega
    obtain ⟨e1, e2⟩ := ele_apart _ h1 n (mayL_mem a1 (mayof n a1 a3)) k (mayL_mem b1 (by rw [hc]; exact mayof k b1 b3)) t (mayL_mem a2 ca.1.2) v (mayL_mem b2 cb.1.2) (by
      simp only [Bool.and_eq_true, beq_iff_eq]
      exact ⟨⟨⟨⟨⟨⟨hf, e3⟩, ca.1.1.1⟩, ca.1.1.2⟩, cb.1.1.1⟩, cb.1.1.2⟩, decide_eq_decide.2 (sgn (nz g1))⟩)
    rw [e1, e2]
  · have hnk : n = k := by rcases hor with h | h | h <;> omega
    rw [if_neg (by omega), if_neg (by omega), if_neg (by omega), if_pos h78] at ca cb
    unfold horseN at ca cb
    simp only [Bool.and_eq_true, Bool.or_eq_true, beq_iff_eq] at ca cb
    have e3 : t % 9 = v % 9 := w3 (.inr (by omega))
    have g1 : t / 9 ≠ n / 9 := by
      rcases ca.1 with h | h
      · have := h.2; rw [away_nat] at this; omega
      · have := h.2; rw [away_nat] at this; omega
    have sg := sgn (nz g1)
    subst hnk
    exact fin rfl ⟨horse_row ca.1 cb.1 e3 sg, e3⟩
  · have hnk : n = k := by rcases hor with h | h | h <;> omega
    rw [if_neg (by omega), if_neg (by omega), if_neg (by omega), if_neg (by omega), if_pos h82] at ca cb
    have ca := beq_iff_eq.1 ca
    have cb := beq_iff_eq.1 cb
    subst hnk
    exact fin rfl (four_to hr1 hr2 w1 (fun h => w3 (.inl h)) (w4 (.inr (.inl h82))) (line_col (c := cel s) (by omega)) (line_col (c := cel s) (by omega)))
  · have hnk : n = k := by rcases hor with h | h | h <;> omega
    rw [if_neg (by omega), if_neg (by omega), if_neg (by omega), if_neg (by omega), if_neg (by omega), if_pos h67] at ca cb
    simp only [Bool.and_eq_true, Bool.or_eq_true, beq_iff_eq] at ca cb
    subst hnk
    exact fin rfl (four_to hr1 hr2 w1 (fun h => w3 (.inl h)) (w4 (.inr (.inr (.inl h67)))) (line_col (c := cel s) (by rcases ca with h | h <;> omega)) (line_col (c := cel s) (by rcases cb with h | h <;> omega)))
  · have hnk : n = k := by rcases hor with h | h | h <;> omega
    rw [if_neg (by omega), if_neg (by omega), if_neg (by omega), if_neg (by omega), if_neg (by omega), if_neg (by omega)] at ca cb
    subst hnk
    exact fin rfl (four_to hr1 hr2 w1 (fun h => w3 (.inl h)) (w4 (.inr (.inr (.inr h80)))) (pawn_col ca) (pawn_col cb))
end Go.Proofs.YtafmapadkpjliaaGreatDoor.K

/- Plain law of wxf: the document's place and count; a text seen from the other side. -/
namespace Go.Proofs.YtafmapadkpjliaaGreatDoor.K
open Go.RowKit Go.Lib Go.Proofs.YtafmapadkpjliaaGreatDoorW.PrintWords Go.Proofs.YtafmapadkpjliaaGreatDoor.Sp
set_option linter.unusedVariables false
set_option linter.unusedSimpArgs false
/-- A file's squares. -/
def colL (f : Nat) : List Nat := (List.range 10).map (fun r => 9 * r + f)
theorem col_eq : ∀ f, f < 9 → (List.range 90).filter (fun i => i % 9 == f) = colL f := by decide
theorem like_col (s : ByteArray) (c : Nat) {f : Nat} (hf : f < 9) : likeN s c f = (colL f).filter (fun i => cel s i == c) := by
  rw [← col_eq f hf, List.filter_filter]
  unfold likeN
  exact List.filter_congr (fun i _ => rfl)
theorem many_col (s : ByteArray) (c : Nat) {f : Nat} (hf : f < 9) : (likeN s c f).length = (List.range 10).countP (fun r => cel s (9 * r + f) == c) := by
  rw [like_col s c hf, ← List.countP_eq_length_filter]
  unfold colL
  rw [List.countP_map]
  rfl
theorem col_sorted : ∀ f, f < 9 → (colL f).Pairwise (· < ·) := by decide
/-- In a sorted row a number's place is how many are less. -/
theorem idx_less : ∀ (l : List Nat), l.Pairwise (· < ·) → ∀ n, n ∈ l → l.idxOf n = l.countP (fun i => decide (i < n))
  | [], _, _, h => by simp at h
  | x :: r, hp, n, h => by
    obtain ⟨h1, h2⟩ := List.pairwise_cons.1 hp
    by_cases he : x = n
    · subst he
      rw [List.idxOf_cons_self, List.countP_cons]
      have : r.countP (fun i => decide (i < x)) = 0 := List.countP_eq_zero.2 (fun y hy => by have := h1 y hy; simp; omega)
      rw [this]
      simp
    · have hr : n ∈ r := by rcases List.mem_cons.1 h with h | h; exact absurd h.symm he; exact h
      rw [List.idxOf_cons, beq_eq_false_iff_ne.2 he, cond_false, idx_less r h2 n hr, List.countP_cons]
      have := h1 n hr
      rw [if_pos (by simpa using this)]
/-- .. in one turned round, how many are more. -/
theorem idx_more : ∀ (l : List Nat), l.Pairwise (· > ·) → ∀ n, n ∈ l → l.idxOf n = l.countP (fun i => decide (n < i))
  | [], _, _, h => by simp at h
  | x :: r, hp, n, h => by
    obtain ⟨h1, h2⟩ := List.pairwise_cons.1 hp
    by_cases he : x = n
    · subst he
      rw [List.idxOf_cons_self, List.countP_cons]
      have : r.countP (fun i => decide (x < i)) = 0 := List.countP_eq_zero.2 (fun y hy => by have := h1 y hy; simp; omega)
      rw [this]
      simp
    · have hr : n ∈ r := by rcases List.mem_cons.1 h with h | h; exact absurd h.symm he; exact h
      rw [List.idxOf_cons, beq_eq_false_iff_ne.2 he, cond_false, idx_more r h2 n hr, List.countP_cons]
      have := h1 n hr
      rw [if_pos (by simpa using this)]
/-- How many of the like are in front. -/
def frontR (s : ByteArray) (n : Nat) (a : Int) : Nat := (List.range 10).countP (fun r => cel s (9 * r + n % 9) == cel s n && (if a = 1 then decide (9 * r + n % 9 < n) else decide (n < 9 * r + n % 9)))
theorem place_front (s : ByteArray) {n : Nat} (hn : n < 90) (a : Int) : placeA s n a = frontR s n a := by
  have hf : n % 9 < 9 := Nat.mod_lt _ (by omega)
  have hm : n ∈ likeN s (cel s n) (n % 9) := like_mem.2 ⟨hn, rfl, rfl⟩
  have hp : (likeN s (cel s n) (n % 9)).Pairwise (· < ·) := by rw [like_col s _ hf]; exact (col_sorted _ hf).filter _
  unfold placeA likeA frontR
  by_cases ha : a = 1
  · rw [if_pos ha, idx_less _ hp n hm, like_col s _ hf, List.countP_filter]
    unfold colL
    rw [List.countP_map]
    refine List.countP_congr (fun r _ => ?_)
    simp only [Function.comp, if_pos ha, Bool.and_comm]
  · rw [if_neg ha, idx_more _ (List.pairwise_reverse.2 hp) n (List.mem_reverse.2 hm), List.countP_reverse, like_col s _ hf, List.countP_filter]
    unfold colL
    rw [List.countP_map]
    refine List.countP_congr (fun r _ => ?_)
    simp only [Function.comp, if_neg ha, Bool.and_comm]
end Go.Proofs.YtafmapadkpjliaaGreatDoor.K

/- Plain law of wxf: a text seen from the other side. -/
namespace Go.Proofs.YtafmapadkpjliaaGreatDoor.K
open Go.RowKit Go.Lib Go.Proofs.YtafmapadkpjliaaGreatDoorW.PrintWords Go.Proofs.YtafmapadkpjliaaGreatDoor.Sp
set_option linter.unusedVariables false
set_option linter.unusedSimpArgs false
theorem range_perm (n : Nat) : ((List.range n).map (fun i => n - 1 - i)).Perm (List.range n) := by
  have e : (List.range n).map (fun i => n - 1 - i) = (List.range n).reverse := by
    apply List.ext_getElem
    · simp
    · intro i h1 h2
      simp
  rw [e]
  exact List.reverse_perm _
theorem count_range {n : Nat} {P Q : Nat → Bool} (h : ∀ i, i < n → Q (n - 1 - i) = P i) : (List.range n).countP Q = (List.range n).countP P := by
  rw [← (range_perm n).countP_eq Q, List.countP_map]
  refine List.countP_congr (fun i hi => ?_)
  rw [← h i (List.mem_range.1 hi)]
  rfl
theorem swap_inj : ∀ x ∈ letters, ∀ y ∈ letters, (swapN x == swapN y) = (x == y) := by decide
theorem file_turn {n : Nat} (hn : n < 90) {a : Int} (ha : a = 0 ∨ a = 1) : fileA (89 - n) (1 - a) = fileA n a := by
  unfold fileA
  rcases ha with rfl | rfl
  · rw [if_pos (by decide), if_neg (by decide)]; omega
  · rw [if_neg (by decide), if_pos rfl]; omega
theorem ahead_turn {m : Mv} (h1 : m.1 < 90) (h2 : m.2 < 90) {a : Int} (ha : a = 0 ∨ a = 1) : aheadA (flipM m) (1 - a) = aheadA m a := by
  unfold aheadA flipM
  simp only
  rcases ha with rfl | rfl
  · rw [if_pos (by decide), if_neg (by decide)]; omega
  · rw [if_neg (by decide), if_pos rfl]; omega
section
variable {s : ByteArray} (hs : isBoard s = true)
include hs
theorem cel_turn {n : Nat} (hn : n < 90) : cel (turnS s) (89 - n) = swapN (cel s n) := by
  rw [(turnS_is hs).2 _ (by omega)]
  unfold turnC
  rw [show 89 - (89 - n) = n by omega]
theorem like_turn {c f : Nat} (hc : c ∈ letters) (hf : f < 9) : (likeN (turnS s) (swapN c) (8 - f)).length = (likeN s c f).length := by
  rw [many_col _ _ (by omega), many_col _ _ hf]
  refine count_range (n := 10) (fun i hi => ?_)
  rw [show 9 * (10 - 1 - i) + (8 - f) = 89 - (9 * i + f) by omega, cel_turn hs (by omega)]
  exact swap_inj _ (board_cell hs (by omega)) _ hc
theorem tandem_turn {c : Nat} (hc : c ∈ letters) : tandemN (turnS s) (swapN c) = tandemN s c := by
  unfold tandemN
  rw [← List.countP_eq_length_filter, ← List.countP_eq_length_filter]
  refine count_range (n := 9) (fun i hi => ?_)
  rw [show 9 - 1 - i = 8 - i by omega, like_turn hs hc hi]
theorem many_turn {n : Nat} (hn : n < 90) : manyA (turnS s) (89 - n) = manyA s n := by
  unfold manyA
  rw [cel_turn hs hn, show (89 - n) % 9 = 8 - n % 9 by omega]
  exact like_turn hs (board_cell hs hn) (Nat.mod_lt _ (by omega))
theorem place_turn {n : Nat} (hn : n < 90) {a : Int} (ha : a = 0 ∨ a = 1) : placeA (turnS s) (89 - n) (1 - a) = placeA s n a := by
  rw [place_front _ (by omega), place_front _ hn]
  unfold frontR
  refine count_range (n := 10) (fun i hi => ?_)
  rw [show (89 - n) % 9 = 8 - n % 9 by omega, show 9 * (10 - 1 - i) + (8 - n % 9) = 89 - (9 * i + n % 9) by omega, cel_turn hs (by omega), cel_turn hs hn, swap_inj _ (board_cell hs (by omega)) _ (board_cell hs hn)]
  congr 1
  rcases ha with rfl | rfl
  · rw [if_pos (by decide), if_neg (by decide), decide_eq_decide]; omega
  · rw [if_neg (by decide), if_pos rfl, decide_eq_decide]; omega
theorem kind_turn {n : Nat} (hn : n < 90) : kindN (cel (turnS s) (89 - n)) = kindN (cel s n) := by
  rw [cel_turn hs hn]; exact (swap_facts _ (board_cell hs hn)).2.2.1
/-- **A move has the same text.** -/
theorem text_turn {m : Mv} (h1 : m.1 < 90) (h2 : m.2 < 90) {a : Int} (ha : a = 0 ∨ a = 1) : textT (turnS s) (flipM m) (1 - a) = textT s m a := by
  unfold textT
  have e1 : pieceT (turnS s) (89 - m.1) (1 - a) = pieceT s m.1 a := by
    unfold pieceT
    rw [kind_turn hs h1, many_turn hs h1, place_turn hs h1 ha, file_turn h1 ha, cel_turn hs h1, tandem_turn hs (board_cell hs h1)]
  have e2 : wayT (turnS s) (flipM m) (1 - a) = wayT s m a := by
    have hk : kindN (cel (turnS s) (flipM m).1) = kindN (cel s m.1) := kind_turn hs h1
    have hf : fileA (flipM m).2 (1 - a) = fileA m.2 a := file_turn h2 ha
    unfold wayT
    rw [ahead_turn h1 h2 ha, hk, hf]
  rw [e2]
  exact congrArg (· ++ wayT s m a) e1
end
end Go.Proofs.YtafmapadkpjliaaGreatDoor.K

/- Plain law of quiet: seen from the other side a position is worth the same. -/
namespace Go.Proofs.YtafmapadkpjliaaGreatDoor.K
open Go.RowKit Go.Lib Go.Proofs.YtafmapadkpjliaaGreatDoorW.PrintWords Go.Proofs.YtafmapadkpjliaaGreatDoor.Sp
set_option linter.unusedVariables false
set_option linter.unusedSimpArgs false
theorem sumV_list (f : Nat → Int) (n : Nat) : sumV f n = ((List.range n).map f).sum := by
  induction n with
  | zero => rfl
  | succ n ih =>
    rw [List.range_succ, List.map_append, List.sum_append, ← ih]
    show sumV f n + f n = _
    simp
theorem perm_sum {l k : List Int} (h : l.Perm k) : l.sum = k.sum := by
  induction h with
  | nil => rfl
  | cons x _ ih => simp only [List.sum_cons, ih]
  | swap x y l => simp only [List.sum_cons]; omega
  | trans _ _ h1 h2 => exact h1.trans h2
theorem sumV_turn {f g : Nat → Int} {n : Nat} (h : ∀ i, i < n → g (n - 1 - i) = f i) : sumV g n = sumV f n := by
  rw [sumV_list, sumV_list]
  have h1 := perm_sum ((range_perm n).map g)
  rw [← h1, List.map_map]
  congr 1
  exact List.map_congr_left (fun i hi => h i (List.mem_range.1 hi))
theorem ownV_turn : ∀ a : Fin 2, ∀ x ∈ letters, ∀ n : Fin 90, ownV (1 - ((a.val : Nat) : Int)) (swapN x) (89 - n.val) = ownV ((a.val : Nat) : Int) x n.val := by decide +kernel
theorem val_turn {s : ByteArray} (hs : isBoard s = true) {a : Int} (ha : a = 0 ∨ a = 1) : valS (turnS s) (1 - a) = valS s a := by
  unfold valS
  refine sumV_turn (n := 90) (fun i hi => ?_)
  rw [show 90 - 1 - i = 89 - i by omega, cel_turn hs hi]
  rcases ha with rfl | rfl
  · exact ownV_turn 0 _ (board_cell hs hi) ⟨i, hi⟩
  · exact ownV_turn 1 _ (board_cell hs hi) ⟨i, hi⟩
theorem bestF_map (f : Mv → Int) (g : Mv → Mv) (l : List Mv) : ∀ b, bestF f b (l.map g) = bestF (fun m => f (g m)) b l := by
  induction l with
  | nil => exact fun _ => rfl
  | cons m r ih => exact fun b => ih _
theorem take_turn {p : Pos} (hw : wellS p = 0) : takeL (turnS p.cells) (legalR (turnS p.cells) (1 - p.side)) = ((takeL p.cells (legalR p.cells p.side)).map flipM).reverse := by
  have hck := well_check hw
  obtain ⟨hbd, hsd, _⟩ := argOk_yes (checkP_parts hck).1
  have hwt : wellS (turnP p) = 0 := by rw [well_turn hbd hsd, hw]
  have e1 : legalR (turnS p.cells) (1 - p.side) = ((legalR p.cells p.side).map flipM).reverse := by
    have := legal_turn hbd hsd
    rw [legal_eq hw, legal_eq hwt] at this
    exact this
  unfold takeL
  rw [e1, List.filter_reverse, List.filter_map]
  congr 2
  refine List.filter_congr (fun m hm => ?_)
  have hm2 : m.2 < 90 := (gathM_mem (Nat.le_refl _) (List.mem_filter.1 hm).1).2
  show (cel (turnS p.cells) (89 - m.2) != 46) = (cel p.cells m.2 != 46)
  rw [cel_turn hbd hm2]
  have h := (swap_facts _ (board_cell hbd hm2)).2.1
  rw [Bool.eq_iff_iff, bne_iff_ne, bne_iff_ne]
  exact not_congr h
theorem quietF_turn : ∀ (k : Nat) (p : Pos), wellS p = 0 → quietF k (turnS p.cells) (1 - p.side) = quietF k p.cells p.side
  | 0, _, _ => rfl
  | k + 1, p, hw => by
    have hck := well_check hw
    obtain ⟨hbd, hsd, _⟩ := argOk_yes (checkP_parts hck).1
    have hwt : wellS (turnP p) = 0 := by rw [well_turn hbd hsd, hw]
    have e1 : legalR (turnS p.cells) (1 - p.side) = ((legalR p.cells p.side).map flipM).reverse := by
      have := legal_turn hbd hsd
      rw [legal_eq hw, legal_eq hwt] at this
      exact this
    unfold quietF
    by_cases he : legalR p.cells p.side = []
    · rw [if_pos he, if_pos (by rw [e1, he]; rfl)]
    · rw [if_neg he, if_neg (by rw [e1]; simpa using he), take_turn hw, val_turn hbd hsd, bestF_perm _ (List.reverse_perm _), bestF_map]
      refine bestF_congr _ (fun m hm => ?_) _
      obtain ⟨q, hc, hs, hwq, _, hl⟩ := take_less hw hm
      obtain ⟨_, hg, _⟩ := legal_mem.1 hl
      obtain ⟨_, h1, h2, h3, h4, _⟩ := gath_mem hg
      obtain ⟨_, _, _, hab, _⟩ := move_parts hck h1 h2 h3 h4
      have hq := (argOk_yes (checkP_parts (well_check hwq)).1).1
      rw [hc] at hq
      show - quietF k (movedB (turnS p.cells) (89 - m.1) (89 - m.2)) (1 - (1 - p.side)) = - quietF k (movedB p.cells m.1 m.2) (1 - p.side)
      rw [moved_turn hbd hq h1 h2 hab, ← hc, ← hs]
      rw [quietF_turn k q hwq]
theorem nP_turn {s : ByteArray} (hs : isBoard s = true) : nP (turnS s) = nP s := by
  have h : ∀ a : Int, (a = 0 ∨ a = 1) → (piecesS (turnS s) (1 - a)).length = (piecesS s a).length := by
    intro a ha
    unfold piecesS
    rw [if_pos hs, if_pos (turnS_is hs).1, ← List.countP_eq_length_filter, ← List.countP_eq_length_filter]
    refine count_range (n := 90) (fun i hi => ?_)
    rw [show 90 - 1 - i = 89 - i by omega, cel_turn hs hi]
    have hf := (swap_facts _ (board_cell hs hi)).2.2.2.1
    rw [hf]
    rcases sideV (cel s i) with h | h | h <;> rcases ha with rfl | rfl <;> rw [h] <;> decide
  unfold nP
  have h0 := h 0 (.inl rfl)
  have h1 := h 1 (.inr rfl)
  rw [show ((1 : Int) - 0) = 1 from rfl] at h0
  rw [show ((1 : Int) - 1) = 0 from rfl] at h1
  omega
/-- **Seen from the other side it is worth the same.** -/
theorem quiet_turn {p : Pos} (hw : wellS p = 0) : quietP (turnP p) = quietP p := by
  have hbd := (argOk_yes (checkP_parts (well_check hw)).1).1
  unfold quietP
  show quietF (nP (turnS p.cells) + 1) (turnS p.cells) (1 - p.side) = _
  rw [nP_turn hbd, quietF_turn _ p hw]
end Go.Proofs.YtafmapadkpjliaaGreatDoor.K

/- Plain law of search: what a position is worth, looked at so deep; within two bounds; seen from the other side. -/
namespace Go.Proofs.YtafmapadkpjliaaGreatDoor.K
open Go.RowKit Go.Lib Go.Proofs.YtafmapadkpjliaaGreatDoorW.PrintWords Go.Proofs.YtafmapadkpjliaaGreatDoor.Sp
set_option linter.unusedVariables false
set_option linter.unusedSimpArgs false
/-- The clock behind a move. -/
def clockB (s : ByteArray) (cl : Int) (m : Mv) : Int := if cel s m.2 = 46 then min (cl + 1) 120 else 0
/-- What a position is worth, looked at so deep, so many plies behind. -/
def worthS : Nat → ByteArray → Int → Int → Nat → Int
  | 0, s, a, cl, k => if legalR s a = [] then -10000 + (k : Int) else if cl = 120 ∧ 0 < k then 0 else quietF (nP s + 1) s a
  | d + 1, s, a, cl, k => if legalR s a = [] then -10000 + (k : Int) else if cl = 120 ∧ 0 < k then 0 else bestF (fun m => - worthS d (movedB s m.1 m.2) (1 - a) (clockB s cl m) (k + 1)) (-1000000) (legalR s a)
theorem bestF_some (f : Mv → Int) (lo hi : Int) {l : List Mv} (hl : l ≠ []) (h : ∀ m ∈ l, lo ≤ f m ∧ f m ≤ hi) (b : Int) (hb : b ≤ hi) : lo ≤ bestF f b l ∧ bestF f b l ≤ hi := by
  cases l with
  | nil => exact absurd rfl hl
  | cons m r =>
    have hm := h m List.mem_cons_self
    exact bestF_in f lo hi r (fun x hx => h x (List.mem_cons_of_mem _ hx)) (max b (f m)) (by omega) (by omega)
theorem bestF_low (f : Mv → Int) {l : List Mv} (hl : l ≠ []) {b c : Int} (h : ∀ m ∈ l, b ≤ f m ∧ c ≤ f m) : bestF f b l = bestF f c l := by
  cases l with
  | nil => exact absurd rfl hl
  | cons m r =>
    have hm := h m List.mem_cons_self
    show bestF f (max b (f m)) r = bestF f (max c (f m)) r
    rw [show max b (f m) = max c (f m) by omega]
theorem worthS_le : ∀ (d : Nat) (s : ByteArray) (a cl : Int) (k : Nat), k + d ≤ 1000 → -30000 ≤ worthS d s a cl k ∧ worthS d s a cl k ≤ 30000
  | 0, s, a, cl, k, hk => by
    have := quietF_le (nP s + 1) s a
    unfold worthS
    repeat' split
    all_goals omega
  | d + 1, s, a, cl, k, hk => by
    unfold worthS
    split
    · omega
    · rename_i hl
      split
      · omega
      · exact bestF_some _ _ _ hl (fun m _ => by have := worthS_le d (movedB s m.1 m.2) (1 - a) (clockB s cl m) (k + 1) (by omega); omega) _ (by omega)
theorem clock_turn {s : ByteArray} (hs : isBoard s = true) {m : Mv} (h2 : m.2 < 90) (cl : Int) : clockB (turnS s) cl (flipM m) = clockB s cl m := by
  unfold clockB
  show (if cel (turnS s) (89 - m.2) = 46 then _ else _) = _
  rw [cel_turn hs h2]
  have h := (swap_facts _ (board_cell hs h2)).2.1
  by_cases he : cel s m.2 = 46
  · rw [if_pos he, if_pos (h.2 he)]
  · rw [if_neg he, if_neg (fun hx => he (h.1 hx))]
/-- **Seen from the other side it is worth the same.** -/
theorem worth_turn : ∀ (d : Nat) (p : Pos) (cl : Int) (k : Nat), wellS p = 0 → worthS d (turnS p.cells) (1 - p.side) cl k = worthS d p.cells p.side cl k := by
  intro d
  induction d with
  | zero =>
    intro p cl k hw
    have hck := well_check hw
    obtain ⟨hbd, hsd, _⟩ := argOk_yes (checkP_parts hck).1
    have hwt : wellS (turnP p) = 0 := by rw [well_turn hbd hsd, hw]
    have e1 : legalR (turnS p.cells) (1 - p.side) = ((legalR p.cells p.side).map flipM).reverse := by
      have := legal_turn hbd hsd
      rw [legal_eq hw, legal_eq hwt] at this
      exact this
    have e2 : quietF (nP (turnS p.cells) + 1) (turnS p.cells) (1 - p.side) = quietF (nP p.cells + 1) p.cells p.side := quiet_turn hw
    unfold worthS
    rw [e2]
    by_cases he : legalR p.cells p.side = []
    · rw [if_pos he, if_pos (by rw [e1, he]; rfl)]
    · rw [if_neg he, if_neg (by rw [e1]; simpa using he)]
  | succ d ih =>
    intro p cl k hw
    have hck := well_check hw
    obtain ⟨hbd, hsd, _⟩ := argOk_yes (checkP_parts hck).1
    have hwt : wellS (turnP p) = 0 := by rw [well_turn hbd hsd, hw]
    have e1 : legalR (turnS p.cells) (1 - p.side) = ((legalR p.cells p.side).map flipM).reverse := by
      have := legal_turn hbd hsd
      rw [legal_eq hw, legal_eq hwt] at this
      exact this
    unfold worthS
    by_cases he : legalR p.cells p.side = []
    · rw [if_pos he, if_pos (by rw [e1, he]; rfl)]
    · rw [if_neg he, if_neg (by rw [e1]; simpa using he), e1, bestF_perm _ (List.reverse_perm _), bestF_map]
      split
      · rfl
      · refine bestF_congr _ (fun m hm => ?_) _
        have hml : m ∈ legalL p := by rw [legal_eq hw]; exact hm
        obtain ⟨q, c, hmk, hwq, hok, hqc, hqs⟩ := legal_step8 hml
        obtain ⟨_, hg, _⟩ := legal_mem.1 hml
        obtain ⟨_, h1, h2, h3, h4, _⟩ := gath_mem hg
        obtain ⟨_, _, _, hab, _⟩ := move_parts hck h1 h2 h3 h4
        have hq := (argOk_yes (checkP_parts (well_check hwq)).1).1
        rw [hqc] at hq
        show - worthS d (movedB (turnS p.cells) (89 - m.1) (89 - m.2)) (1 - (1 - p.side)) (clockB (turnS p.cells) cl (flipM m)) (k + 1) = - worthS d (movedB p.cells m.1 m.2) (1 - p.side) (clockB p.cells cl m) (k + 1)
        rw [moved_turn hbd hq h1 h2 hab, clock_turn hbd h2, ← hqc, ← hqs]
        rw [ih q _ _ hwq]
/-- A round of within. -/
theorem worth_start (low high : Int) : min low high = min (max (-1073741824) low) high ∨ low < -1073741824 := by omega
end Go.Proofs.YtafmapadkpjliaaGreatDoor.K
