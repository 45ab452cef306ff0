import Derived.Test.YtojklhlcoakieaaProg
import Derived.Test.YtojklhlcoakieaaWMore
import Derived.Deep.RegionHeld3
namespace Go.Proofs.Ytojklhlcoakieaa.P
open Go.RowKit Go.Lib Go.Proofs.YtojklhlcoakieaaW.PrintWords Go.Proofs.YtojklhlcoakieaaW.PrintLast Go.Proofs.YtojklhlcoakieaaW.PrintMore
set_option linter.unusedVariables false
/-- An entry: key, depth, score, how sure, from, to. -/
structure Ent where
  key : Int
  depth : Int
  score : Int
  sure : Int
  frm : Int
  dest : Int
deriving DecidableEq
/-- The cells of a slot. -/
def slotC : Option Ent → List Value
  | none => [.int .u64 0, .int .i64 0, .int .i64 0, .int .i64 0, .int .i64 0, .int .i64 0, .bool false]
  | some e => [.int .u64 e.key, .int .i64 e.depth, .int .i64 e.score, .int .i64 e.sure, .int .i64 e.frm, .int .i64 e.dest, .bool true]
theorem slotC_len (x : Option Ent) : (slotC x).length = 7 := by cases x <;> rfl
/-- A table of n slots in block b, its slots in block sb: T tells what is in each, c how many are full. -/
structure TabAt (W : World) (b sb n : Nat) (T : Nat → Option Ent) (c : Nat) : Prop where
  ptr : W.cell? ⟨b, 0, none⟩ = some (.slice (some ⟨sb, 0, none⟩) n n)
  cnt : W.cell? ⟨b, 1, none⟩ = some (.int .i64 (c : Int))
  fz : W.frozen? ⟨b, 1, none⟩ = false
  cells : ∀ i j, i < n → j < 7 → W.cell? ⟨sb, i * 7 + j, none⟩ = (slotC (T i))[j]?
  fzs : ∀ i, W.frozen? ⟨sb, i, none⟩ = false
  ne : b ≠ sb
  pos : 0 < n
  most : n ≤ 4096
theorem slot_walk (w : World) (b sb n cap : Nat) (key : Int) (h0 : w.cell? ⟨b, 0, none⟩ = some (.slice (some ⟨sb, 0, none⟩) n cap)) (hn : 0 < n) (hn2 : n < 1000000) (hk : 0 ≤ key) :
  Calls Try.prog 18 #[.pointer (some ⟨b, 0, none⟩), .int .u64 key] w fun e w' => e = .returned (.pointer (some ⟨sb, 7 * (key.tmod n).toNat, none⟩)) ∧ Drawn0 w w' := by
  have hu : IntKind.u64.wrap (n : Int) = (n : Int) := by unfold IntKind.wrap; simp [IntKind.signed, IntKind.bits]; omega
  have hz : ((n : Int) == 0) = false := beq_eq_false_iff_ne.2 (by omega)
  have hz1 : ((n : Int) = 0) = False := eq_false (by omega)
  have hz2 : (n = 0) = False := eq_false (by omega)
  have hr : IntKind.u64.wrap (key.tmod n) = key.tmod n := by
    have h1 := Int.tmod_lt_of_pos key (b := (n : Int)) (by omega)
    have h2 := Int.tmod_nonneg (n : Int) hk
    unfold IntKind.wrap; simp [IntKind.signed, IntKind.bits]; omega
  have hm : (0 ≤ key.tmod n) = True := eq_true (Int.tmod_nonneg _ hk)
  have hm2 : (key.tmod n < n) = True := eq_true (Int.tmod_lt_of_pos _ (by omega))
  go_enter Try.func18, Try.ntmps18
  go_wp2
  go_region_held3 (fun w' => w'.cell? ⟨b, 0, none⟩ = some (.slice (some ⟨sb, 0, none⟩) n cap)) (go_keep) (fail)
  go_wp2
  go_ret
  exact ⟨by rw [Nat.mul_comm]; rfl, ⟨1, rfl⟩⟩
abbrev zeroE : Value := .agg #[.int .u64 0, .int .i64 0, .int .i64 0, .int .i64 0, .int .i64 0, .int .i64 0, .bool false]
theorem info_slot : (Try.prog.info? 61).map (fun i => (i.zero, i.size, i.bytes)) = some (some zeroE, 7, 56) := by kernel_rfl
theorem zero_cells : zeroE.cells = #[.int .u64 0, .int .i64 0, .int .i64 0, .int .i64 0, .int .i64 0, .int .i64 0, .bool false] := rfl
theorem made (n : Nat) (hn : n ≤ 4096) (W : World) : (Instr.makeSlice 55 (.int .i64 (n : Int)) (.int .i64 (n : Int))).run Try.prog W = .ok (.slice (some ⟨W.heap.size, 0, none⟩) n n) (W.alloc (.cells (madeCells zeroE.cells (n * 7)) 61)) := by
  obtain ⟨i, hi, hz, hs, hb⟩ := info_parts info_slot
  have h := run_make (P := Try.prog) W 55 61 i zeroE Try.underlying55 hi hz .i64 .i64 n n (by omega) (Int.le_refl _) (by rw [hb]; omega) (by omega)
  rw [hs] at h
  simpa using h
theorem new_walk (w : World) (n : Nat) (h1 : decide ((n : Int) < 1) = false) (h2 : decide ((4096 : Int) < (n : Int)) = false) :
  Calls Try.prog 8 #[.int .i64 n] w fun e w' => e = .returned (.tuple #[.pointer (some ⟨w.heap.size + 1, 0, none⟩), .int .i64 0]) ∧ TabAt w' (w.heap.size + 1) w.heap.size n (fun _ => none) 0 ∧ Below w.heap.size w w' := by
  have hn : n ≤ 4096 := by have := of_decide_eq_false h2; omega
  have hp : 0 < n := by have := of_decide_eq_false h1; omega
  have km := fun W => made n hn W
  go_enter Try.func8, Try.ntmps8
  go_wp2
  go_ret2
  refine ⟨rfl, ⟨?_, ?_, ?_, ?_, ?_, by omega, hp, hn⟩, ?_⟩
  · simp
  · simp
  · simp
  · intro i j hi hj
    rw [World.cell?_alloc2_first]
    have hlt : i * 7 + j < n * 7 := by omega
    have hj' : (i * 7 + j) % 7 = j := by omega
    simp only [madeCells, Array.getElem?_map, Array.getElem?_range]
    rw [if_pos hlt]
    simp only [Option.map_some]
    have : j = 0 ∨ j = 1 ∨ j = 2 ∨ j = 3 ∨ j = 4 ∨ j = 5 ∨ j = 6 := by omega
    simp only [show (#[Value.int .u64 0, .int .i64 0, .int .i64 0, .int .i64 0, .int .i64 0, .int .i64 0, .bool false] : Array Value).size = 7 from rfl, hj']
    rcases this with rfl | rfl | rfl | rfl | rfl | rfl | rfl <;> rfl
  · intro i; simp
  · exact below_alloc (below_alloc (Below.refl _ _) _) _
end Go.Proofs.Ytojklhlcoakieaa.P
