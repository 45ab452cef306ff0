/- Walks of the table's Put. -/
import Derived.Test.YtojklhlcoakieaaT2
import Derived.Deep.QuietTactic
import Derived.BigQuiet
namespace Go.Proofs.Ytojklhlcoakieaa.P
open Go.RowKit Go.Lib Go.Proofs.YtojklhlcoakieaaW.PrintWords Go.Proofs.YtojklhlcoakieaaW.PrintLast Go.Proofs.YtojklhlcoakieaaW.PrintMore
set_option linter.unusedVariables false
set_option linter.unusedSimpArgs false
/-- An entry as a value. -/
abbrev entV (e : Ent) : Value := .agg #[.int .u64 e.key, .int .i64 e.depth, .int .i64 e.score, .int .i64 e.sure, .int .i64 e.frm, .int .i64 e.dest]
theorem TabAt.lt {W : World} {b sb n c : Nat} {T : Nat → Option Ent} (h : TabAt W b sb n T c) : b < W.heap.size ∧ sb < W.heap.size := by
  refine ⟨World.block_lt_of_cell? W _ h.ptr, ?_⟩
  have e := h.cells 0 0 h.pos (by omega)
  obtain ⟨v, hv⟩ : ∃ v, (slotC (T 0))[0]? = some v := ⟨_, List.getElem?_eq_getElem (by rw [slotC_len]; omega)⟩
  rw [hv] at e
  exact World.block_lt_of_cell? W _ e
/-- What has been turned: blocks b and sb alone; what is new lies behind. -/
structure Turned (b sb : Nat) (w w' : World) : Prop where
  os : w'.os = w.os
  tape : w'.tape = w.tape
  output : w'.output = w.output
  size : w.heap.size ≤ w'.heap.size
  block : ∀ k, k < w.heap.size → k ≠ b → k ≠ sb → w'.heap[k]? = w.heap[k]?
theorem Turned.refl (b sb : Nat) (w : World) : Turned b sb w w := ⟨rfl, rfl, rfl, Nat.le_refl _, fun _ _ _ _ => rfl⟩
theorem Turned.of_below {w w' : World} (b sb : Nat) (h : Below w.heap.size w w') : Turned b sb w w' := ⟨h.os, h.tape, h.output, h.size, fun k hk _ _ => h.block k hk⟩
theorem Turned.trans {b sb : Nat} {u v w : World} (h : Turned b sb u v) (k : Turned b sb v w) : Turned b sb u w :=
  ⟨k.os.trans h.os, k.tape.trans h.tape, k.output.trans h.output, Nat.le_trans h.size k.size, fun i hi h1 h2 => (k.block i (Nat.lt_of_lt_of_le hi h.size) h1 h2).trans (h.block i hi h1 h2)⟩
theorem Turned.setCell {b sb : Nat} {u v : World} (h : Turned b sb u v) (g j : Nat) (x : Value) (hg : g = b ∨ g = sb) : Turned b sb u (v.setCell ⟨g, j, none⟩ x) := by
  refine ⟨?_, ?_, ?_, ?_, ?_⟩
  · simpa [World.setCell] using h.os
  · simpa [World.setCell] using h.tape
  · simpa [World.setCell] using h.output
  · simpa [World.setCell] using h.size
  · intro k hk h1 h2
    exact (Below.heap_setCell v ⟨g, j, none⟩ x k (by rcases hg with rfl | rfl <;> assumption)).trans (h.block k hk h1 h2)
theorem Turned.below {b sb B : Nat} {w w' : World} (h : Turned b sb w w') (hb : B ≤ b) (hs : B ≤ sb) (hz : B ≤ w.heap.size) : Below B w w' :=
  ⟨h.os, h.tape, h.output, h.size, fun k hk => h.block k (by omega) (by omega) (by omega)⟩
/-- The cells of a slot are written. -/
def setSlot (W : World) (sb i : Nat) (e : Ent) : World :=
  ((((((W.setCell ⟨sb, i * 7, none⟩ (.int .u64 e.key)).setCell ⟨sb, i * 7 + 1, none⟩ (.int .i64 e.depth)).setCell ⟨sb, i * 7 + 2, none⟩ (.int .i64 e.score)).setCell ⟨sb, i * 7 + 3, none⟩ (.int .i64 e.sure)).setCell ⟨sb, i * 7 + 4, none⟩ (.int .i64 e.frm)).setCell ⟨sb, i * 7 + 5, none⟩ (.int .i64 e.dest)).setCell ⟨sb, i * 7 + 6, none⟩ (.bool true)
theorem setSlot_frozen (W : World) (sb i : Nat) (e : Ent) (a : Addr) : (setSlot W sb i e).frozen? a = W.frozen? a := by
  unfold setSlot
  simp only [World.frozen?_setCell]
theorem setSlot_other (W : World) (sb i : Nat) (e : Ent) (g k : Nat) (h : g ≠ sb ∨ k < i * 7 ∨ i * 7 + 7 ≤ k) : (setSlot W sb i e).cell? ⟨g, k, none⟩ = W.cell? ⟨g, k, none⟩ := by
  have n : ∀ j, j < 7 → (⟨sb, i * 7 + j, none⟩ : Addr) ≠ ⟨g, k, none⟩ := by
    intro j hj e
    injection e with e1 e2 _
    rcases h with h | h | h
    · exact h e1.symm
    · omega
    · omega
  unfold setSlot
  rw [World.cell?_setCell_other _ _ _ _ (n 6 (by omega)), World.cell?_setCell_other _ _ _ _ (n 5 (by omega)), World.cell?_setCell_other _ _ _ _ (n 4 (by omega)), World.cell?_setCell_other _ _ _ _ (n 3 (by omega)), World.cell?_setCell_other _ _ _ _ (n 2 (by omega)), World.cell?_setCell_other _ _ _ _ (n 1 (by omega))]
  exact World.cell?_setCell_other _ _ _ _ (n 0 (by omega))
theorem setSlot_at (W : World) (sb i : Nat) (e : Ent) (j : Nat) (hj : j < 7) (hW : ∀ k, k < 7 → (W.cell? ⟨sb, i * 7 + k, none⟩).isSome = true) : (setSlot W sb i e).cell? ⟨sb, i * 7 + j, none⟩ = (slotC (some e))[j]? := by
  have n : ∀ k m, k ≠ m → (⟨sb, i * 7 + k, none⟩ : Addr) ≠ ⟨sb, i * 7 + m, none⟩ := by
    intro k m hkm e
    injection e with _ e2 _
    omega
  have z : i * 7 = i * 7 + 0 := rfl
  unfold setSlot
  have hc : j = 0 ∨ j = 1 ∨ j = 2 ∨ j = 3 ∨ j = 4 ∨ j = 5 ∨ j = 6 := by omega
  have iss : ∀ (V : World) (k m : Nat) (x : Value), (V.cell? ⟨sb, i * 7 + m, none⟩).isSome = true → ((V.setCell ⟨sb, i * 7 + k, none⟩ x).cell? ⟨sb, i * 7 + m, none⟩).isSome = true := by
    intro V k m x hV
    by_cases h : k = m
    · subst h; rw [World.cell?_setCell_same' _ _ _ hV]; rfl
    · rw [World.cell?_setCell_other _ _ _ _ (n k m h)]; exact hV
  have o : ∀ (V : World) (k m : Nat) (x : Value), k ≠ m → (V.setCell ⟨sb, i * 7 + k, none⟩ x).cell? ⟨sb, i * 7 + m, none⟩ = V.cell? ⟨sb, i * 7 + m, none⟩ := fun V k m x h => World.cell?_setCell_other _ _ _ _ (n k m h)
  have s : ∀ (V : World) (k : Nat) (x : Value), (V.cell? ⟨sb, i * 7 + k, none⟩).isSome = true → (V.setCell ⟨sb, i * 7 + k, none⟩ x).cell? ⟨sb, i * 7 + k, none⟩ = some x := fun V k x h => World.cell?_setCell_same' _ _ _ h
  rw [z]
  rcases hc with rfl | rfl | rfl | rfl | rfl | rfl | rfl
  · rw [o _ 6 0 _ (by omega), o _ 5 0 _ (by omega), o _ 4 0 _ (by omega), o _ 3 0 _ (by omega), o _ 2 0 _ (by omega), o _ 1 0 _ (by omega), s _ 0 _ (hW 0 (by omega))]; rfl
  · rw [o _ 6 1 _ (by omega), o _ 5 1 _ (by omega), o _ 4 1 _ (by omega), o _ 3 1 _ (by omega), o _ 2 1 _ (by omega), s _ 1 _ (iss _ 0 1 _ (hW 1 (by omega)))]; rfl
  · rw [o _ 6 2 _ (by omega), o _ 5 2 _ (by omega), o _ 4 2 _ (by omega), o _ 3 2 _ (by omega), s _ 2 _ (iss _ 1 2 _ (iss _ 0 2 _ (hW 2 (by omega))))]; rfl
  · rw [o _ 6 3 _ (by omega), o _ 5 3 _ (by omega), o _ 4 3 _ (by omega), s _ 3 _ (iss _ 2 3 _ (iss _ 1 3 _ (iss _ 0 3 _ (hW 3 (by omega)))))]; rfl
  · rw [o _ 6 4 _ (by omega), o _ 5 4 _ (by omega), s _ 4 _ (iss _ 3 4 _ (iss _ 2 4 _ (iss _ 1 4 _ (iss _ 0 4 _ (hW 4 (by omega))))))]; rfl
  · rw [o _ 6 5 _ (by omega), s _ 5 _ (iss _ 4 5 _ (iss _ 3 5 _ (iss _ 2 5 _ (iss _ 1 5 _ (iss _ 0 5 _ (hW 5 (by omega)))))))]; rfl
  · rw [s _ 6 _ (iss _ 5 6 _ (iss _ 4 6 _ (iss _ 3 6 _ (iss _ 2 6 _ (iss _ 1 6 _ (iss _ 0 6 _ (hW 6 (by omega))))))))]; rfl
theorem setSlot_turned {b sb : Nat} {u v : World} (h : Turned b sb u v) (i : Nat) (e : Ent) : Turned b sb u (setSlot v sb i e) :=
  (((((((h.setCell sb _ _ (.inr rfl)).setCell sb _ _ (.inr rfl)).setCell sb _ _ (.inr rfl)).setCell sb _ _ (.inr rfl)).setCell sb _ _ (.inr rfl)).setCell sb _ _ (.inr rfl)).setCell sb _ _ (.inr rfl))
/-- What a store makes of the table. -/
def putT (T : Nat → Option Ent) (i : Nat) (e : Ent) : Nat → Option Ent := fun j => if j = i then some e else T j
theorem TabAt.store {W : World} {b sb n c : Nat} {T : Nat → Option Ent} (h : TabAt W b sb n T c) (i : Nat) (hi : i < n) (e : Ent) : TabAt (setSlot W sb i e) b sb n (putT T i e) c := by
  have h7 : ∀ k, k < 7 → (W.cell? ⟨sb, i * 7 + k, none⟩).isSome = true := by
    intro k hk
    rw [h.cells i k hi hk, List.getElem?_eq_getElem (by rw [slotC_len]; exact hk)]
    rfl
  refine ⟨(setSlot_other _ _ _ _ _ _ (.inl h.ne)).trans h.ptr, (setSlot_other _ _ _ _ _ _ (.inl h.ne)).trans h.cnt, (setSlot_frozen _ _ _ _ _).trans h.fz, ?_, fun k => (setSlot_frozen _ _ _ _ _).trans (h.fzs k), h.ne, h.pos, h.most⟩
  intro k j hk hj
  unfold putT
  by_cases hki : k = i
  · rw [if_pos hki, hki]
    exact setSlot_at W sb i e j hj h7
  · rw [if_neg hki, setSlot_other _ _ _ _ _ _ (.inr (by omega))]
    exact h.cells k j hk hj
theorem TabAt.count {W : World} {b sb n c : Nat} {T : Nat → Option Ent} (h : TabAt W b sb n T c) (d : Nat) : TabAt (W.setCell ⟨b, 1, none⟩ (.int .i64 (d : Int))) b sb n T d := by
  have o : ∀ g j, (⟨b, 1, none⟩ : Addr) ≠ ⟨g, j, none⟩ → (W.setCell ⟨b, 1, none⟩ (.int .i64 (d : Int))).cell? ⟨g, j, none⟩ = W.cell? ⟨g, j, none⟩ := fun g j hh => World.cell?_setCell_other _ _ _ _ hh
  refine ⟨(o _ _ (by intro e; injection e with _ e2; omega)).trans h.ptr, World.cell?_setCell_same' _ _ _ (by rw [h.cnt]; rfl), by rw [World.frozen?_setCell]; exact h.fz, ?_, fun k => by rw [World.frozen?_setCell]; exact h.fzs k, h.ne, h.pos, h.most⟩
  intro i j hi hj
  exact (o _ _ (by intro e; injection e with e1; exact h.ne e1)).trans (h.cells i j hi hj)
theorem TabAt.drewN {W : World} {b sb n c : Nat} {T : Nat → Option Ent} (h : TabAt W b sb n T c) (q : Nat) : TabAt (W.drewN q) b sb n T c := ⟨h.ptr, h.cnt, h.fz, h.cells, h.fzs, h.ne, h.pos, h.most⟩
set_option maxHeartbeats 1000000 in
theorem put_nil (w : World) (b : Nat) (e : Ent)  :
  Calls Try.prog 9 #[.pointer none, entV e] w fun x w' => x = .returned (.bool false) ∧ Below w.heap.size w w' := by
  go_enter Try.func9, Try.ntmps9
  go_wp2_with fail
  go_returns
  refine ⟨rfl, ?_⟩
  repeat' (first | (with_reducible exact Below.refl _ _) | (with_reducible refine pw_below_drewN ?_ _) | (with_reducible refine below_alloc ?_ _) | (with_reducible refine Below.drew ?_) | (with_reducible refine Below.setCell ?_ ?_ _) | (simp; done))
set_option maxHeartbeats 1000000 in
theorem put_low (w : World) (b : Nat) (e : Ent) (s0 : decide (e.sure < 0) = true) :
  Calls Try.prog 9 #[.pointer (some ⟨b, 0, none⟩), entV e] w fun x w' => x = .returned (.bool false) ∧ Below w.heap.size w w' := by
  go_enter Try.func9, Try.ntmps9
  go_wp2_with fail
  go_returns
  refine ⟨rfl, ?_⟩
  repeat' (first | (with_reducible exact Below.refl _ _) | (with_reducible refine pw_below_drewN ?_ _) | (with_reducible refine below_alloc ?_ _) | (with_reducible refine Below.drew ?_) | (with_reducible refine Below.setCell ?_ ?_ _) | (simp; done))
set_option maxHeartbeats 1000000 in
theorem put_high (w : World) (b : Nat) (e : Ent) (s0 : decide (e.sure < 0) = false) (s1 : decide (2 < e.sure) = true) :
  Calls Try.prog 9 #[.pointer (some ⟨b, 0, none⟩), entV e] w fun x w' => x = .returned (.bool false) ∧ Below w.heap.size w w' := by
  go_enter Try.func9, Try.ntmps9
  go_wp2_with fail
  go_returns
  refine ⟨rfl, ?_⟩
  repeat' (first | (with_reducible exact Below.refl _ _) | (with_reducible refine pw_below_drewN ?_ _) | (with_reducible refine below_alloc ?_ _) | (with_reducible refine Below.drew ?_) | (with_reducible refine Below.setCell ?_ ?_ _) | (simp; done))
set_option maxHeartbeats 1000000 in
theorem put_new (w : World) (b sb n c : Nat) (T : Nat → Option Ent) (e : Ent) (hk : 0 ≤ e.key) (i : Nat) (hi : slotN e.key n = i) (h : TabAt w b sb n T c) (hT : T i = none) (s0 : decide (e.sure < 0) = false) (s1 : decide (2 < e.sure) = false) (hc : IntKind.i64.wrap ((c : Int) + 1) = ((c + 1 : Nat) : Int)) :
  Calls Try.prog 9 #[.pointer (some ⟨b, 0, none⟩), entV e] w fun x w' => x = .returned (.bool true) ∧ TabAt w' b sb n (putT T i e) (c + 1) ∧ Turned b sb w w' := by
  have hs : i < n := hi ▸ slotN_lt hk h.pos
  have H := Aside0.mk h
  have hi' := Aside0.mk hi
  have hk' := Aside0.mk hk
  clear h hi hk
  go_enter Try.func9, Try.ntmps9
  go_wp2_with fail
  have H1 := Aside0.mk (H.out.below (below_alloc (Below.refl w.heap.size w) (.cells #[.int .u64 e.key, .int .i64 e.depth, .int .i64 e.score, .int .i64 e.sure, .int .i64 e.frm, .int .i64 e.dest] 40)))
  refine (slot_at hk'.out H1.out i hi'.out).mono ?_
  rintro e1 w1 ⟨rfl, ⟨q, rfl⟩⟩
  have e0 := H1.out.cells i 0 hs (by omega)
  have e1 := H1.out.cells i 1 hs (by omega)
  have e2 := H1.out.cells i 2 hs (by omega)
  have e3 := H1.out.cells i 3 hs (by omega)
  have e4 := H1.out.cells i 4 hs (by omega)
  have e5 := H1.out.cells i 5 hs (by omega)
  have e6 := H1.out.cells i 6 hs (by omega)
  rw [hT] at e0 e1 e2 e3 e4 e5 e6
  simp only [slotC, List.getElem?_cons_succ, List.getElem?_cons_zero, Nat.add_zero] at e0 e1 e2 e3 e4 e5 e6
  have k1 := H1.out.cnt
  have k2 := H1.out.fz
  have k3 := H1.out.fzs
  have k4 : b ≠ sb := H1.out.ne
  obtain ⟨l1, l2⟩ := H.out.lt
  have n1 : ¬ b = w.heap.size := by omega
  have n2 : ¬ w.heap.size = b := by omega
  have n3 : ¬ sb = w.heap.size := by omega
  have n4 : ¬ w.heap.size = sb := by omega
  have n5 : ¬ sb = b := fun h => k4 h.symm
  clear l1 l2
  go_wp2_with fail
  go_returns
  exact ⟨rfl, ((H1.out.drewN q).count (c + 1)).store i hs e, setSlot_turned ((Turned.of_below b sb (pw_below_drewN (below_alloc (Below.refl _ _) _) q)).setCell b 1 _ (.inl rfl)) i e⟩
set_option maxHeartbeats 1000000 in
theorem put_same (w : World) (b sb n c : Nat) (T : Nat → Option Ent) (e : Ent) (hk : 0 ≤ e.key) (i : Nat) (hi : slotN e.key n = i) (h : TabAt w b sb n T c) (x : Ent) (hT : T i = some x) (s0 : decide (e.sure < 0) = false) (s1 : decide (2 < e.sure) = false) (x0 : (x.key == e.key) = true) :
  Calls Try.prog 9 #[.pointer (some ⟨b, 0, none⟩), entV e] w fun y w' => y = .returned (.bool true) ∧ TabAt w' b sb n (putT T i e) c ∧ Turned b sb w w' := by
  have hs : i < n := hi ▸ slotN_lt hk h.pos
  have x00 : (x.key != e.key) = false := by simp [bne, x0]
  have H := Aside0.mk h
  have hi' := Aside0.mk hi
  have hk' := Aside0.mk hk
  clear h hi hk
  go_enter Try.func9, Try.ntmps9
  go_wp2_with fail
  have H1 := Aside0.mk (H.out.below (below_alloc (Below.refl w.heap.size w) (.cells #[.int .u64 e.key, .int .i64 e.depth, .int .i64 e.score, .int .i64 e.sure, .int .i64 e.frm, .int .i64 e.dest] 40)))
  refine (slot_at hk'.out H1.out i hi'.out).mono ?_
  rintro e1 w1 ⟨rfl, ⟨q, rfl⟩⟩
  have e0 := H1.out.cells i 0 hs (by omega)
  have e1 := H1.out.cells i 1 hs (by omega)
  have e2 := H1.out.cells i 2 hs (by omega)
  have e3 := H1.out.cells i 3 hs (by omega)
  have e4 := H1.out.cells i 4 hs (by omega)
  have e5 := H1.out.cells i 5 hs (by omega)
  have e6 := H1.out.cells i 6 hs (by omega)
  rw [hT] at e0 e1 e2 e3 e4 e5 e6
  simp only [slotC, List.getElem?_cons_succ, List.getElem?_cons_zero, Nat.add_zero] at e0 e1 e2 e3 e4 e5 e6
  have k1 := H1.out.cnt
  have k2 := H1.out.fz
  have k3 := H1.out.fzs
  have k4 : b ≠ sb := H1.out.ne
  obtain ⟨l1, l2⟩ := H.out.lt
  have n1 : ¬ b = w.heap.size := by omega
  have n2 : ¬ w.heap.size = b := by omega
  have n3 : ¬ sb = w.heap.size := by omega
  have n4 : ¬ w.heap.size = sb := by omega
  have n5 : ¬ sb = b := fun h => k4 h.symm
  clear l1 l2
  go_wp2_with fail
  go_quiet (fail)
  go_wp2_with fail
  go_returns
  exact ⟨rfl, (H1.out.drewN (q + nq)).store i hs e, setSlot_turned (Turned.of_below b sb (pw_below_drewN (below_alloc (Below.refl _ _) _) (q + nq))) i e⟩
set_option maxHeartbeats 1000000 in
theorem put_over (w : World) (b sb n c : Nat) (T : Nat → Option Ent) (e : Ent) (hk : 0 ≤ e.key) (i : Nat) (hi : slotN e.key n = i) (h : TabAt w b sb n T c) (x : Ent) (hT : T i = some x) (s0 : decide (e.sure < 0) = false) (s1 : decide (2 < e.sure) = false) (x0 : (x.key == e.key) = false) (x1 : decide (e.depth < x.depth) = false) :
  Calls Try.prog 9 #[.pointer (some ⟨b, 0, none⟩), entV e] w fun y w' => y = .returned (.bool true) ∧ TabAt w' b sb n (putT T i e) c ∧ Turned b sb w w' := by
  have hs : i < n := hi ▸ slotN_lt hk h.pos
  have x00 : (x.key != e.key) = true := by simp [bne, x0]
  have H := Aside0.mk h
  have hi' := Aside0.mk hi
  have hk' := Aside0.mk hk
  clear h hi hk
  go_enter Try.func9, Try.ntmps9
  go_wp2_with fail
  have H1 := Aside0.mk (H.out.below (below_alloc (Below.refl w.heap.size w) (.cells #[.int .u64 e.key, .int .i64 e.depth, .int .i64 e.score, .int .i64 e.sure, .int .i64 e.frm, .int .i64 e.dest] 40)))
  refine (slot_at hk'.out H1.out i hi'.out).mono ?_
  rintro e1 w1 ⟨rfl, ⟨q, rfl⟩⟩
  have e0 := H1.out.cells i 0 hs (by omega)
  have e1 := H1.out.cells i 1 hs (by omega)
  have e2 := H1.out.cells i 2 hs (by omega)
  have e3 := H1.out.cells i 3 hs (by omega)
  have e4 := H1.out.cells i 4 hs (by omega)
  have e5 := H1.out.cells i 5 hs (by omega)
  have e6 := H1.out.cells i 6 hs (by omega)
  rw [hT] at e0 e1 e2 e3 e4 e5 e6
  simp only [slotC, List.getElem?_cons_succ, List.getElem?_cons_zero, Nat.add_zero] at e0 e1 e2 e3 e4 e5 e6
  have k1 := H1.out.cnt
  have k2 := H1.out.fz
  have k3 := H1.out.fzs
  have k4 : b ≠ sb := H1.out.ne
  obtain ⟨l1, l2⟩ := H.out.lt
  have n1 : ¬ b = w.heap.size := by omega
  have n2 : ¬ w.heap.size = b := by omega
  have n3 : ¬ sb = w.heap.size := by omega
  have n4 : ¬ w.heap.size = sb := by omega
  have n5 : ¬ sb = b := fun h => k4 h.symm
  clear l1 l2
  go_wp2_with fail
  go_quiet (fail)
  go_wp2_with fail
  go_returns
  exact ⟨rfl, (H1.out.drewN (q + nq)).store i hs e, setSlot_turned (Turned.of_below b sb (pw_below_drewN (below_alloc (Below.refl _ _) _) (q + nq))) i e⟩
set_option maxHeartbeats 1000000 in
theorem put_keep (w : World) (b sb n c : Nat) (T : Nat → Option Ent) (e : Ent) (hk : 0 ≤ e.key) (i : Nat) (hi : slotN e.key n = i) (h : TabAt w b sb n T c) (x : Ent) (hT : T i = some x) (s0 : decide (e.sure < 0) = false) (s1 : decide (2 < e.sure) = false) (x0 : (x.key == e.key) = false) (x1 : decide (e.depth < x.depth) = true) :
  Calls Try.prog 9 #[.pointer (some ⟨b, 0, none⟩), entV e] w fun y w' => y = .returned (.bool false) ∧ Below w.heap.size w w' := by
  have hs : i < n := hi ▸ slotN_lt hk h.pos
  have x00 : (x.key != e.key) = true := by simp [bne, x0]
  have H := Aside0.mk h
  have hi' := Aside0.mk hi
  have hk' := Aside0.mk hk
  clear h hi hk
  go_enter Try.func9, Try.ntmps9
  go_wp2_with fail
  have H1 := Aside0.mk (H.out.below (below_alloc (Below.refl w.heap.size w) (.cells #[.int .u64 e.key, .int .i64 e.depth, .int .i64 e.score, .int .i64 e.sure, .int .i64 e.frm, .int .i64 e.dest] 40)))
  refine (slot_at hk'.out H1.out i hi'.out).mono ?_
  rintro e1 w1 ⟨rfl, ⟨q, rfl⟩⟩
  have e0 := H1.out.cells i 0 hs (by omega)
  have e1 := H1.out.cells i 1 hs (by omega)
  have e2 := H1.out.cells i 2 hs (by omega)
  have e3 := H1.out.cells i 3 hs (by omega)
  have e4 := H1.out.cells i 4 hs (by omega)
  have e5 := H1.out.cells i 5 hs (by omega)
  have e6 := H1.out.cells i 6 hs (by omega)
  rw [hT] at e0 e1 e2 e3 e4 e5 e6
  simp only [slotC, List.getElem?_cons_succ, List.getElem?_cons_zero, Nat.add_zero] at e0 e1 e2 e3 e4 e5 e6
  have k1 := H1.out.cnt
  have k2 := H1.out.fz
  have k3 := H1.out.fzs
  have k4 : b ≠ sb := H1.out.ne
  obtain ⟨l1, l2⟩ := H.out.lt
  have n1 : ¬ b = w.heap.size := by omega
  have n2 : ¬ w.heap.size = b := by omega
  have n3 : ¬ sb = w.heap.size := by omega
  have n4 : ¬ w.heap.size = sb := by omega
  have n5 : ¬ sb = b := fun h => k4 h.symm
  clear l1 l2
  go_wp2_with fail
  go_quiet (fail)
  go_wp2_with fail
  go_returns
  refine ⟨rfl, ?_⟩
  repeat' (first | (with_reducible exact Below.refl _ _) | (with_reducible refine pw_below_drewN ?_ _) | (with_reducible refine below_alloc ?_ _) | (with_reducible refine Below.drew ?_) | (with_reducible refine Below.setCell ?_ ?_ _) | (simp; done))
end Go.Proofs.Ytojklhlcoakieaa.P
