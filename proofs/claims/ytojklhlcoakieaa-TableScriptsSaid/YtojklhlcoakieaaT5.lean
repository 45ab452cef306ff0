/- Walks of the table's Clear and of the laws' own and live. -/
import Derived.Test.YtojklhlcoakieaaT4
import Derived.BigFrame
namespace Go.Proofs.Ytojklhlcoakieaa.P
open Go.RowKit Go.Lib Go.Proofs.YtojklhlcoakieaaW.PrintWords Go.Proofs.YtojklhlcoakieaaW.PrintLast Go.Proofs.YtojklhlcoakieaaW.PrintMore
set_option linter.unusedVariables false
set_option linter.unusedSimpArgs false
/-- The cells of n empty slots. -/
def zl (n : Nat) : List Value := (Builtin.zeroCells zeroE.cells n).toList
theorem zl_len (n : Nat) : (zl n).length = n * 7 := by simp [zl, Builtin.zeroCells, zero_cells]
theorem zl_get (n i j : Nat) (hi : i < n) (hj : j < 7) : (zl n)[i * 7 + j]? = (slotC none)[j]? := by
  have hlt : i * 7 + j < n * 7 := by omega
  have hj' : (i * 7 + j) % 7 = j := by omega
  simp only [zl, Builtin.zeroCells, zero_cells, Array.getElem?_toList, Array.getElem?_map, show (#[Value.int .u64 0, .int .i64 0, .int .i64 0, .int .i64 0, .int .i64 0, .int .i64 0, .bool false] : Array Value).size = 7 from rfl, Array.getElem?_range]
  rw [if_pos hlt]
  simp only [Option.map_some, hj']
  have : j = 0 ∨ j = 1 ∨ j = 2 ∨ j = 3 ∨ j = 4 ∨ j = 5 ∨ j = 6 := by omega
  rcases this with rfl | rfl | rfl | rfl | rfl | rfl | rfl <;> rfl
theorem zl_one (n : Nat) : ∀ v ∈ zl n, v.oneCell' = true := by
  intro v hv
  simp only [zl, Builtin.zeroCells, zero_cells, Array.toList_map, List.mem_map] at hv
  obtain ⟨i, _, rfl⟩ := hv
  have h7 : i % 7 < 7 := Nat.mod_lt _ (by omega)
  have : i % 7 = 0 ∨ i % 7 = 1 ∨ i % 7 = 2 ∨ i % 7 = 3 ∨ i % 7 = 4 ∨ i % 7 = 5 ∨ i % 7 = 6 := by omega
  simp only [show (#[Value.int .u64 0, .int .i64 0, .int .i64 0, .int .i64 0, .int .i64 0, .int .i64 0, .bool false] : Array Value).size = 7 from rfl]
  rcases this with h | h | h | h | h | h | h <;> rw [h] <;> rfl
theorem zero_slot (w : World) : (zeroValue 61).run Try.prog w = .ok zeroE w := by kernel_rfl
theorem run_clear_slots (w : World) (ty : TypeId) (b n c : Nat) (hn : 0 < n) (hc : ∀ j, j < n * 7 → (w.cell? ⟨b, j, none⟩).isSome = true) (hf : ∀ j, j < n * 7 → w.frozen? ⟨b, j, none⟩ = false) :
    (Builtin.clear_ #[55] ty #[.slice (some ⟨b, 0, none⟩) n c]).run Try.prog w = .ok (.tuple #[]) (w.setCells b 0 (zl n)) := by
  have hst := run_storeCells_cells (P := Try.prog) b 0 (zl n) 0 w (by rw [zl_len]; simpa using hc) (by rw [zl_len]; simpa using hf) (zl_one n)
  simp only [Nat.add_zero] at hst
  obtain ⟨m, rfl⟩ : ∃ m, n = m + 1 := ⟨n - 1, by omega⟩
  have hst' : (storeCells ⟨b, 0, none⟩ (Builtin.zeroCells zeroE.cells (m + 1)).toList 0).run Try.prog w = .ok () (w.setCells b 0 (zl (m + 1))) := hst
  simp [Builtin.clear_, run_underlying Try.underlying55, zero_slot, hst']
theorem setCells_tape (b : Nat) : ∀ (vs : List Value) (o : Nat) (w : World), (w.setCells b o vs).tape = w.tape
  | [], _, _ => rfl
  | v :: r, o, w => by rw [World.setCells, setCells_tape b r]; rfl
theorem setCells_turned {b sb : Nat} {u : World} : ∀ (vs : List Value) (o : Nat) (v : World), Turned b sb u v → Turned b sb u (v.setCells sb o vs)
  | [], _, _, h => h
  | x :: r, o, v, h => setCells_turned r (o + 1) _ (h.setCell sb o x (.inr rfl))
theorem TabAt.clear {W : World} {b sb n c : Nat} {T : Nat → Option Ent} (h : TabAt W b sb n T c) : TabAt (W.setCells sb 0 (zl n)) b sb n (fun _ => none) c := by
  have o : ∀ g j, g ≠ sb → (W.setCells sb 0 (zl n)).cell? ⟨g, j, none⟩ = W.cell? ⟨g, j, none⟩ := fun g j hh => World.cell?_setCells_out sb _ _ _ _ (fun e _ => absurd e hh)
  refine ⟨(o _ _ h.ne).trans h.ptr, (o _ _ h.ne).trans h.cnt, (World.frozen?_setCells _ _ _ _ _).trans h.fz, ?_, fun i => (World.frozen?_setCells _ _ _ _ _).trans (h.fzs i), h.ne, h.pos, h.most⟩
  intro i j hi hj
  have := World.cell?_setCells_in sb (zl n) 0 W (by
    intro k hk
    rw [zl_len] at hk
    have := h.cells (k / 7) (k % 7) (by omega) (by omega)
    rw [show 0 + k = k / 7 * 7 + k % 7 by omega, this, List.getElem?_eq_getElem (by rw [slotC_len]; omega)]
    rfl) (i * 7 + j) (by rw [zl_len]; omega)
  rw [Nat.zero_add] at this
  rw [this, ← List.getElem?_eq_getElem, zl_get n i j hi hj]
theorem clear_nil (w : World) :
  Calls Try.prog 16 #[.pointer none] w fun e w' => e = .returned (.tuple #[]) ∧ w' = w := by
  go_enter Try.func16, Try.ntmps16
  go_wp2_with fail
  go_end0
  exact ⟨rfl, rfl⟩
theorem clear_walk (w : World) (b sb n c : Nat) (T : Nat → Option Ent) (h : TabAt w b sb n T c) :
  Calls Try.prog 16 #[.pointer (some ⟨b, 0, none⟩)] w fun e w' => e = .returned (.tuple #[]) ∧ TabAt w' b sb n (fun _ => none) 0 ∧ Turned b sb w w' := by
  have hcl : ∀ ty, (Builtin.clear_ #[55] ty #[.slice (some ⟨sb, 0, none⟩) n n]).run Try.prog w = .ok (.tuple #[]) (w.setCells sb 0 (zl n)) := by
    intro ty
    refine run_clear_slots w ty sb n n h.pos ?_ (fun j _ => h.fzs j)
    intro k hk
    have := h.cells (k / 7) (k % 7) (by omega) (by omega)
    rw [show k = k / 7 * 7 + k % 7 by omega, this, List.getElem?_eq_getElem (by rw [slotC_len]; omega)]
    rfl
  have H2 := Aside0.mk h.clear
  have k0 := h.ptr
  have k1 := h.clear.cnt
  have k2 := h.clear.fz
  clear h
  go_enter Try.func16, Try.ntmps16
  go_wp2_with (simp only [hcl])
  go_end0
  exact ⟨rfl, H2.out.count 0, (setCells_turned _ _ _ (Turned.refl b sb w)).setCell b 1 _ (.inl rfl)⟩
theorem own_walk (w : World) (e : Ent) :
  Calls Try.prog 10 #[entV e] w fun x w' => x = .returned (entV e) ∧ Below w.heap.size w w' := by
  go_enter Try.func10, Try.ntmps10
  go_wp2_with fail
  go_returns
  exact ⟨rfl, by (repeat' (first | (with_reducible exact Below.refl _ _) | (with_reducible refine pw_below_drewN ?_ _) | (with_reducible refine below_alloc ?_ _) | (with_reducible refine Below.drew ?_) | (with_reducible refine Below.setCell ?_ ?_ _) | (simp; done)))⟩
end Go.Proofs.Ytojklhlcoakieaa.P
