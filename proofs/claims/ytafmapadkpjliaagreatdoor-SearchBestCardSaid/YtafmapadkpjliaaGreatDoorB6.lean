/- Walks and plain laws that several statements lean on, joined: no statement of the seat is proved here. -/
import Derived.WalkKit
import Derived.Handy
import Derived.Deep.RegionHeld3
import Derived.Deep.Cut
import Derived.Test.YtafmapadkpjliaaGreatDoorB2
import Derived.Test.YtafmapadkpjliaaGreatDoorB5

/- Walks: slices.Contains over numbers of one's own. -/
namespace Go.Proofs.YtafmapadkpjliaaGreatDoor.K
open Go.RowKit Go.Lib Go.Proofs.YtafmapadkpjliaaGreatDoorW.PrintWords Go.Proofs.YtafmapadkpjliaaGreatDoor.Sp
set_option linter.unusedVariables false
set_option linter.unusedSimpArgs false
/-- Where a number is first, or -1. -/
def idxL (l : List Nat) (x : Int) : Int := if (x ∈ l.map (fun (n : Nat) => (n : Int))) then 0 else -1
set_option maxRecDepth 100000 in
set_option maxHeartbeats 1000000 in
theorem indexI_c (w : World) (B : Nat) (v : Value) (l : List Nat) (x : Int) (h : IntsAt w B v l) (hl : l.length ≤ 1000000) :
    Calls Tryz.prog 146 #[v, .int .i64 x] w fun e w' => ∃ y : Int, e = .returned (.int .i64 y) ∧ w' = w ∧ (0 ≤ y ↔ ∃ n ∈ l, (n : Int) = x) := by
  obtain ⟨A, cap, rfl, hcap, hA⟩ := h.out
  have HA := Aside0.mk hA
  have HL := Aside0.mk hl
  clear hA hcap h
  have hl1 : (l.length : Int) ≤ 1000000 := by omega
  clear hl
  go_enter Tryz.func146, Tryz.ntmps146
  go_wp2_with fail
  go_loopg [8] l.length (fun gg s8 wr => ∃ i : Nat, s8 = .int .i64 i ∧ i + gg = l.length ∧ wr = w ∧ Aside0 (∀ j (hj : j < l.length), j < i → (l[j] : Int) ≠ x))
  case atStart => exact ⟨0, rfl, by omega, rfl, ⟨fun j hj h => by omega⟩⟩
  case round =>
    obtain ⟨i, rfl, hi, rfl, HN⟩ := hrel
    cases gk with
    | zero =>
      have hn : ¬ ((i : Int) < (l.length : Int)) := by omega
      have HI := Aside0.mk (show i = l.length by omega)
      clear hi
      go_wp2_with fail
      go_ret
      refine ⟨_, rfl, rfl, ?_⟩
      constructor
      · intro h; omega
      · rintro ⟨n, hn, rfl⟩
        obtain ⟨j, hj, rfl⟩ := List.mem_iff_getElem.1 hn
        exact absurd rfl (HN.out j hj (by have := HI.out; omega))
    | succ g =>
      have hn : ((i : Int) < (l.length : Int)) := by omega
      have hil : i < l.length := by omega
      have HI := Aside0.mk (show i + 1 + g = l.length by omega)
      rcases HA.out with h0 | ⟨b, rfl, hb1, hb2, hb3⟩
      · subst h0; simp at hil
      have ci := hb3 i hil
      clear hi hb1 hb2 hb3
      cases hx : (x == (l[i] : Int))
      case true =>
        go_wp2_with fail
        go_ret
        refine ⟨_, rfl, rfl, ?_⟩
        have := beq_iff_eq.1 hx
        exact ⟨fun _ => ⟨l[i], List.getElem_mem hil, this.symm⟩, fun _ => by omega⟩
      case false =>
        go_wp2_with fail
        go_roundg g
        case measure => omega
        case rel =>
          refine ⟨i + 1, rfl, HI.out, rfl, ⟨fun j hj h => ?_⟩⟩
          rcases Nat.lt_or_ge j i with h1 | h1
          · exact HN.out j hj h1
          · have : j = i := by omega
            subst this
            intro he
            rw [he] at hx
            simp at hx
theorem containsI_c (w : World) (B : Nat) (v : Value) (l : List Nat) (x : Int) (h : IntsAt w B v l) (hl : l.length ≤ 1000000) :
    Calls Tryz.prog 111 #[v, .int .i64 x] w fun e w' => e = .returned (.bool (l.any (fun n => (n : Int) == x))) ∧ w' = w := by
  have HX := Aside0.mk (indexI_c w B v l x h hl)
  clear h hl
  go_enter Tryz.func111, Tryz.ntmps111
  go_wp2_with fail
  refine HX.out.mono ?_
  rintro e w' ⟨y, rfl, rfl, hy⟩
  have HY := Aside0.mk hy
  clear hy
  go_wp2_with fail
  go_ret
  refine ⟨ret_bool ?_, rfl⟩
  have := HY.out
  rw [Bool.eq_iff_iff]
  simp only [decide_eq_true_eq, List.any_eq_true, beq_iff_eq]
  exact HY.out
end Go.Proofs.YtafmapadkpjliaaGreatDoor.K

/- A block of bytes of the call's own. -/
namespace Go.Proofs.YtafmapadkpjliaaGreatDoor.K
open Go.RowKit Go.Lib Go.Proofs.YtafmapadkpjliaaGreatDoorW.PrintWords Go.Proofs.YtafmapadkpjliaaGreatDoor.Sp
set_option linter.unusedVariables false
set_option linter.unusedSimpArgs false
/-- A block of bytes of the call's own. -/
def BytesAt (W : World) (g : Nat) (xs : List Int) : Prop := ∀ i, i < xs.length → W.cell? ⟨g, i, none⟩ = some (.int .u8 (xs.getD i 0)) ∧ W.frozen? ⟨g, i, none⟩ = false
theorem bytes_at_new (w : World) (e : TypeId) (s : ByteArray) : BytesAt (Lib.bytesWorld w e s) w.heap.size (bytesOf s) := by
  intro i hi
  rw [bytesOf_length] at hi
  have hcl : (Lib.bytesCells w e s).size ≥ s.size := by
    have h := Lib.bytesWorld_cell w e s (s.size - 1) (by omega)
    have hn := Lib.bytesWorld_at_new w e s
    unfold World.cell? at h
    rw [hn] at h
    by_cases hlt : s.size - 1 < (Lib.bytesCells w e s).size
    · omega
    · simp [Array.getElem?_eq_none (Nat.le_of_not_lt hlt)] at h
  refine ⟨(Lib.bytesWorld_cell w e s i hi).trans ?_, ?_⟩
  · have h' : i < s.data.toList.length := by rw [data_length]; exact hi
    simp [bytesOf, List.getD_eq_getElem?_getD, List.getElem?_eq_getElem h']
  · have hn := Lib.bytesWorld_at_new w e s
    simp [World.frozen?, hn]
    omega
theorem BytesAt.set {W : World} {g : Nat} {xs : List Int} (h : BytesAt W g xs) (i : Nat) (v : Int) : BytesAt (W.setCell ⟨g, i, none⟩ (.int .u8 v)) g (xs.set i v) := by
  intro j hj
  rw [List.length_set] at hj
  obtain ⟨h1, h2⟩ := h j hj
  refine ⟨?_, by rw [World.frozen?_setCell]; exact h2⟩
  by_cases hij : i = j
  · subst hij
    rw [World.cell?_setCell_same' _ _ _ (by rw [h1]; rfl)]
    simp [List.getD_eq_getElem?_getD, hj]
  · rw [World.cell?_setCell_other _ _ _ _ (by intro e; injection e with _ e _; exact hij e), h1]
    simp [List.getD_eq_getElem?_getD, List.getElem?_set_ne hij]
theorem BytesAt.below {W W1 : World} {g : Nat} {xs : List Int} (h : BytesAt W g xs) (hg : g < W.heap.size) (hb : Below W.heap.size W W1) : BytesAt W1 g xs :=
  fun i hi => ⟨(hb.cell (p := ⟨g, i, none⟩) hg).trans (h i hi).1, (hb.frozen (p := ⟨g, i, none⟩) hg).trans (h i hi).2⟩
theorem bytes_string {W : World} {g cap : Nat} {xs : List Int} (h : BytesAt W g xs) (src : TypeId) (hs : Tryz.prog.underlying src = some (.slice 5)) : (convert src 9 (.slice (some ⟨g, 0, none⟩) xs.length cap)).run Tryz.prog W = .ok (.string (strOfNums xs)) W :=
  run_convert_bytes_arg W src 5 hs Tryz.underlying5 g 0 xs.length cap xs rfl (fun i hi => by rw [Nat.zero_add]; exact (h i hi).1) 9 Tryz.underlying9
end Go.Proofs.YtafmapadkpjliaaGreatDoor.K

/- Walk: pseudo.Apply. -/
namespace Go.Proofs.YtafmapadkpjliaaGreatDoor.K
open Go.RowKit Go.Lib Go.Proofs.YtafmapadkpjliaaGreatDoorW.PrintWords Go.Proofs.YtafmapadkpjliaaGreatDoor.Sp
set_option linter.unusedVariables false
set_option linter.unusedSimpArgs false
attribute [local go_sem] cel_get   -- for this text's walks alone
/-- A board behind a move. -/
def movedB (s : ByteArray) (a b : Nat) : ByteArray := strOfNums (((bytesOf s).set b (cel s a)).set a 46)
/-- A move's numbers. -/
structure Mvi where
  frm : Int
  dest : Int
abbrev mviV (m : Mvi) : Value := .agg #[.int .i64 m.frm, .int .i64 m.dest]
/-- May a move be applied to a position that is right? -/
def goodM (p : Pos) (m : Mvi) : Bool := sideN (atS p.cells m.frm) == p.side && (kindN (atS p.cells m.dest) != 75 && (allS p.cells m.frm).any (fun n => (n : Int) == m.dest))
def zeroP : Pos := ⟨ByteArray.empty, 0, 0, 0⟩
/-- Behind a move; what was taken; or why there is none. -/
def applyP (p : Pos) (m : Mvi) : Pos × Nat × Int :=
  if checkP p ≠ 0 then (zeroP, 0, checkP p) else
  if goodM p m = false then (zeroP, 0, 7) else
  (⟨movedB p.cells m.frm.toNat m.dest.toNat, 1 - p.side, if atS p.cells m.dest = 46 then min (p.clock + 1) 120 else 0, if p.side = 1 then min (p.full + 1) 9999 else p.full⟩, if atS p.cells m.dest = 46 then 0 else atS p.cells m.dest, 0)
def ApplyIs (w : World) (p : Pos) (m : Mvi) (e : Ending) (w' : World) : Prop :=
  e = .returned (.tuple #[posV (applyP p m).1, .int .u8 ((applyP p m).2.1 : Int), .int .i64 (applyP p m).2.2]) ∧ Below w.heap.size w w'
/-- The boxes of Apply's arguments and result. -/
structure ApAt (w0 W : World) (p : Pos) (m : Mvi) : Prop where
  c0 : W.cell? ⟨w0.heap.size, 0, none⟩ = some (.string p.cells)
  c1 : W.cell? ⟨w0.heap.size, 1, none⟩ = some (.int .i64 p.side)
  c2 : W.cell? ⟨w0.heap.size, 2, none⟩ = some (.int .i64 p.clock)
  c3 : W.cell? ⟨w0.heap.size, 3, none⟩ = some (.int .i64 p.full)
  d0 : W.cell? ⟨w0.heap.size + 1, 0, none⟩ = some (.int .i64 m.frm)
  d1 : W.cell? ⟨w0.heap.size + 1, 1, none⟩ = some (.int .i64 m.dest)
  r0 : W.cell? ⟨w0.heap.size + 1 + 1, 0, none⟩ = some (.string ByteArray.empty)
  r1 : W.cell? ⟨w0.heap.size + 1 + 1, 1, none⟩ = some (.int .i64 0)
  r2 : W.cell? ⟨w0.heap.size + 1 + 1, 2, none⟩ = some (.int .i64 0)
  r3 : W.cell? ⟨w0.heap.size + 1 + 1, 3, none⟩ = some (.int .i64 0)
  fp : ∀ k, W.frozen? ⟨w0.heap.size, k, none⟩ = false
  fr : ∀ k, W.frozen? ⟨w0.heap.size + 1 + 1, k, none⟩ = false
  bel : Below w0.heap.size w0 W
  lt : w0.heap.size + 2 < W.heap.size
theorem ApAt.below {w0 W W' : World} {p : Pos} {m : Mvi} (h : ApAt w0 W p m) (hb : Below W.heap.size W W') : ApAt w0 W' p m :=
  ⟨below_cell hb _ _ _ h.c0, below_cell hb _ _ _ h.c1, below_cell hb _ _ _ h.c2, below_cell hb _ _ _ h.c3, below_cell hb _ _ _ h.d0, below_cell hb _ _ _ h.d1, below_cell hb _ _ _ h.r0, below_cell hb _ _ _ h.r1, below_cell hb _ _ _ h.r2, below_cell hb _ _ _ h.r3, fun k => (hb.frozen (p := ⟨w0.heap.size, k, none⟩) (by have := h.lt; show w0.heap.size < _; omega)).trans (h.fp k), fun k => (hb.frozen (p := ⟨w0.heap.size + 1 + 1, k, none⟩) (by have := h.lt; show w0.heap.size + 1 + 1 < _; omega)).trans (h.fr k), h.bel.trans (hb.mono h.bel.size), Nat.lt_of_lt_of_le h.lt hb.size⟩
theorem apat_new (w : World) (p : Pos) (m : Mvi) : ApAt w (((w.alloc (.cells #[.string p.cells, .int .i64 p.side, .int .i64 p.clock, .int .i64 p.full] 23)).alloc (.cells #[.int .i64 m.frm, .int .i64 m.dest] 36)).alloc (.cells #[.string ByteArray.empty, .int .i64 0, .int .i64 0, .int .i64 0] 23)) p m := by
  refine ⟨?_, ?_, ?_, ?_, ?_, ?_, ?_, ?_, ?_, ?_, fun k => (Below.frozen (below_alloc (below_alloc (Below.refl _ _) _) _) (p := ⟨w.heap.size, k, none⟩) (by simp)).trans (by simp [World.frozen?_alloc_at]), fun k => by simp [World.frozen?_alloc_at], below_alloc (below_alloc (below_alloc (Below.refl _ _) _) _) _, by simp⟩ <;> first | (simp [World.cell?_alloc_at, World.cell?_alloc_past]; done) | exact below_cell (below_alloc (Below.refl _ _) _) _ _ _ (below_cell (below_alloc (Below.refl _ _) _) _ _ _ (by simp [World.cell?_alloc_at]; done))
theorem ApAt.drew {w0 W : World} {p : Pos} {m : Mvi} (h : ApAt w0 W p m) : ApAt w0 W.drew p m := h.below (pw_below_drewN (Below.refl _ _) 1)
set_option maxRecDepth 100000 in
set_option maxHeartbeats 4000000 in
theorem apply_no (p : Pos) (m : Mvi) (w : World) (hck : checkP p ≠ 0) : Calls Tryz.prog 77 #[posV p, mviV m] w (ApplyIs w p m) := by
  have HCK := Aside0.mk (fun W => check_c p W)
  have hu := Tryz.underlying23
  have hu2 := Tryz.underlying36
  have HR := Aside0.mk (show applyP p m = (zeroP, 0, checkP p) by unfold applyP; rw [if_pos hck])
  have h2 : (checkP p != 0) = true := by simpa using hck
  clear hck
  generalize checkP p = ck at *
  go_enter Tryz.func77, Tryz.ntmps77
  go_wp2_with fail
  refine (HCK.out _).mono ?_
  rintro e w1 ⟨rfl, hb⟩
  have HA := Aside0.mk ((apat_new w p m).below hb)
  clear hb
  have fr := HA.out.fr
  have r0 := HA.out.r0
  have r1 := HA.out.r1
  have r2 := HA.out.r2
  have r3 := HA.out.r3
  go_wp2_with fail
  refine bodyPost_ret (by simp [results, Tryz.results77, go_sem, r0, r1, r2, r3]; try rfl) rfl ?_
  exact ⟨by rw [HR.out]; rfl, by (repeat' (first | (with_reducible exact Below.refl _ _) | (with_reducible refine pw_below_drewN ?_ _) | (with_reducible refine below_alloc ?_ _) | (with_reducible refine Below.drew ?_) | (with_reducible refine Below.setCell ?_ ?_ _) | (simp; done))) <;> first | exact HA.out.bel | (simp; done) | (simp; omega)⟩
set_option maxRecDepth 100000 in
set_option maxHeartbeats 4000000 in
theorem apply_bad (p : Pos) (m : Mvi) (w : World) (hck : checkP p = 0) (hg : goodM p m = false) : Calls Tryz.prog 77 #[posV p, mviV m] w (ApplyIs w p m) := by
  have HCK := Aside0.mk (fun W => check_c p W)
  have hu := Tryz.underlying23
  have hu2 := Tryz.underlying36
  have HR := Aside0.mk (show applyP p m = (zeroP, 0, 7) by unfold applyP; rw [if_neg (by simpa using hck), if_pos hg])
  have HF := Aside0.mk (fun W => at_c p.cells m.frm W)
  have HD := Aside0.mk (fun W => at_c p.cells m.dest W)
  have HALL := Aside0.mk (fun W => all_c p.cells m.frm W)
  have HX := Aside0.mk (show atS p.cells m.frm < 256 by unfold atS; split; exact cel_lt _ _; omega)
  have HY := Aside0.mk (show atS p.cells m.dest < 256 by unfold atS; split; exact cel_lt _ _; omega)
  have HL := Aside0.mk (show (allS p.cells m.frm).length ≤ 1000000 by unfold allS; split; exact Nat.le_trans (allN_len _ _) (by omega); simp)
  unfold goodM at hg
  rw [hck] at HCK
  clear hck
  generalize atS p.cells m.frm = x at *
  generalize atS p.cells m.dest = y at *
  generalize allS p.cells m.frm = l at *
  have HS := Aside0.mk (fun W => side_c x HX.out W)
  have HK := Aside0.mk (fun W => kind_c y HY.out W)
  cases h1 : (sideN x == p.side)
  case false =>
    clear hg
    go_enter Tryz.func77, Tryz.ntmps77
    go_wp2_with fail
    refine (HCK.out _).mono ?_
    rintro e w1 ⟨rfl, hb⟩
    have HA := Aside0.mk ((apat_new w p m).below hb)
    clear hb
    have c0 := HA.out.c0
    have c1 := HA.out.c1
    have d0 := HA.out.d0
    go_wp2_with fail
    go_region_held3 (fun W => W.cell? ⟨w.heap.size, 0, none⟩ = some (.string p.cells) ∧ W.cell? ⟨w.heap.size, 1, none⟩ = some (.int .i64 p.side) ∧ W.cell? ⟨w.heap.size + 1, 0, none⟩ = some (.int .i64 m.frm)) (go_keep)
      (first
        | (go_at_call 73; refine (HF.out _).mono ?_; rintro e w2 ⟨rfl, hb⟩; have HA2 := Aside0.mk (HA.out.drew.below hb); have c0' := HA2.out.c0; have c1' := HA2.out.c1; have d0' := HA2.out.d0; clear hb)
        | (go_at_call 105; refine (HS.out _).mono ?_; rintro e w3 ⟨rfl, rfl⟩))
    clear HA c0 c1 d0 c1' d0'
    have d1 := HA2.out.d1
    go_wp2_with fail
    refine (HD.out _).mono ?_
    rintro e w4 ⟨rfl, hb⟩
    have HA := Aside0.mk (HA2.out.below hb)
    clear hb HA2 c0' d1
    go_wp2_with fail
    go_quiet (fail)
    have HA1 := Aside0.mk (HA.out.below (pw_below_drewN (Below.refl _ _) nq))
    have fr := HA1.out.fr
    have r0 := HA1.out.r0
    have r1 := HA1.out.r1
    have r2 := HA1.out.r2
    have r3 := HA1.out.r3
    generalize w4.drewN nq = w5 at *
    go_wp2_with fail
    refine bodyPost_ret (by simp [results, Tryz.results77, go_sem, r0, r1, r2, r3]; try rfl) rfl ?_
    exact ⟨by rw [HR.out]; rfl, by (repeat' (first | (with_reducible exact Below.refl _ _) | (with_reducible refine pw_below_drewN ?_ _) | (with_reducible refine below_alloc ?_ _) | (with_reducible refine Below.drew ?_) | (with_reducible refine Below.setCell ?_ ?_ _) | (simp; done))) <;> first | exact HA1.out.bel | (simp; done) | (simp; omega)⟩
  case true =>
  cases h2 : (kindN y == 75)
  case true =>
    have hk : (((kindN y : Nat) : Int) == 75) = true := by rw [beq_iff_eq] at *; omega
    clear hg
    go_enter Tryz.func77, Tryz.ntmps77
    go_wp2_with fail
    refine (HCK.out _).mono ?_
    rintro e w1 ⟨rfl, hb⟩
    have HA := Aside0.mk ((apat_new w p m).below hb)
    clear hb
    have c0 := HA.out.c0
    have c1 := HA.out.c1
    have d0 := HA.out.d0
    go_wp2_with fail
    go_region_held3 (fun W => W.cell? ⟨w.heap.size, 0, none⟩ = some (.string p.cells) ∧ W.cell? ⟨w.heap.size, 1, none⟩ = some (.int .i64 p.side) ∧ W.cell? ⟨w.heap.size + 1, 0, none⟩ = some (.int .i64 m.frm)) (go_keep)
      (first
        | (go_at_call 73; refine (HF.out _).mono ?_; rintro e w2 ⟨rfl, hb⟩; have HA2 := Aside0.mk (HA.out.drew.below hb); have c0' := HA2.out.c0; have c1' := HA2.out.c1; have d0' := HA2.out.d0; clear hb)
        | (go_at_call 105; refine (HS.out _).mono ?_; rintro e w3 ⟨rfl, rfl⟩))
    clear HA c0 c1 d0 c1' d0'
    have d1 := HA2.out.d1
    go_wp2_with fail
    refine (HD.out _).mono ?_
    rintro e w4 ⟨rfl, hb⟩
    have HA := Aside0.mk (HA2.out.below hb)
    clear hb HA2 c0' d1
    go_wp2_with fail
    go_quiet (first | (go_at_call 96; exact Calls.quiet_of_same (HK.out _)))
    have HA1 := Aside0.mk (HA.out.below (pw_below_drewN (Below.refl _ _) nq))
    have fr := HA1.out.fr
    have r0 := HA1.out.r0
    have r1 := HA1.out.r1
    have r2 := HA1.out.r2
    have r3 := HA1.out.r3
    generalize w4.drewN nq = w5 at *
    go_wp2_with fail
    refine bodyPost_ret (by simp [results, Tryz.results77, go_sem, r0, r1, r2, r3]; try rfl) rfl ?_
    exact ⟨by rw [HR.out]; rfl, by (repeat' (first | (with_reducible exact Below.refl _ _) | (with_reducible refine pw_below_drewN ?_ _) | (with_reducible refine below_alloc ?_ _) | (with_reducible refine Below.drew ?_) | (with_reducible refine Below.setCell ?_ ?_ _) | (simp; done))) <;> first | exact HA1.out.bel | (simp; done) | (simp; omega)⟩
  case false =>
    have h3 : l.any (fun n => (n : Int) == m.dest) = false := by rw [h1] at hg; simp only [bne, h2, Bool.true_and, Bool.not_false] at hg; exact hg
    have hk : (((kindN y : Nat) : Int) == 75) = false := by rw [beq_eq_false_iff_ne] at *; omega
    clear hg
    go_enter Tryz.func77, Tryz.ntmps77
    go_wp2_with fail
    refine (HCK.out _).mono ?_
    rintro e w1 ⟨rfl, hb⟩
    have HA := Aside0.mk ((apat_new w p m).below hb)
    clear hb
    have c0 := HA.out.c0
    have c1 := HA.out.c1
    have d0 := HA.out.d0
    go_wp2_with fail
    go_region_held3 (fun W => W.cell? ⟨w.heap.size, 0, none⟩ = some (.string p.cells) ∧ W.cell? ⟨w.heap.size, 1, none⟩ = some (.int .i64 p.side) ∧ W.cell? ⟨w.heap.size + 1, 0, none⟩ = some (.int .i64 m.frm)) (go_keep)
      (first
        | (go_at_call 73; refine (HF.out _).mono ?_; rintro e w2 ⟨rfl, hb⟩; have HA2 := Aside0.mk (HA.out.drew.below hb); have c0' := HA2.out.c0; have c1' := HA2.out.c1; have d0' := HA2.out.d0; clear hb)
        | (go_at_call 105; refine (HS.out _).mono ?_; rintro e w3 ⟨rfl, rfl⟩))
    clear HA c0 c1 d0 c1' d0'
    have d1 := HA2.out.d1
    go_wp2_with fail
    refine (HD.out _).mono ?_
    rintro e w4 ⟨rfl, hb⟩
    have HA := Aside0.mk (HA2.out.below hb)
    clear hb HA2 c0' d1
    have c0 := HA.out.c0
    have d0 := HA.out.d0
    have d1 := HA.out.d1
    go_wp2_with fail
    go_region_held3 (fun W => W.cell? ⟨w.heap.size, 0, none⟩ = some (.string p.cells) ∧ W.cell? ⟨w.heap.size + 1, 0, none⟩ = some (.int .i64 m.frm) ∧ W.cell? ⟨w.heap.size + 1, 1, none⟩ = some (.int .i64 m.dest)) (go_keep)
      (first
        | (go_at_call 96; refine (HK.out _).mono ?_; rintro e w5 ⟨rfl, rfl⟩)
        | (go_at_call 112; refine (HALL.out _).mono ?_; rintro e w6 ⟨v, rfl, hv, hb⟩; have HA6 := Aside0.mk (HA.out.drew.below hb); have HV := Aside0.mk hv; have c0' := HA6.out.c0; have d0' := HA6.out.d0; have d1' := HA6.out.d1; clear hb hv)
        | (go_at_call 111; refine (containsI_c _ _ _ _ _ HV.out HL.out).mono ?_; rw [h3]; rintro e w7 ⟨rfl, rfl⟩))
    clear c0 d0 d1 c0' d0' d1'
    have fr := HA6.out.fr
    have r0 := HA6.out.r0
    have r1 := HA6.out.r1
    have r2 := HA6.out.r2
    have r3 := HA6.out.r3
    go_wp2_with fail
    refine bodyPost_ret (by simp [results, Tryz.results77, go_sem, r0, r1, r2, r3]; try rfl) rfl ?_
    exact ⟨by rw [HR.out]; rfl, by (repeat' (first | (with_reducible exact Below.refl _ _) | (with_reducible refine pw_below_drewN ?_ _) | (with_reducible refine below_alloc ?_ _) | (with_reducible refine Below.drew ?_) | (with_reducible refine Below.setCell ?_ ?_ _) | (simp; done))) <;> first | exact HA6.out.bel | (simp; done) | (simp; omega)⟩
end Go.Proofs.YtafmapadkpjliaaGreatDoor.K

/- Walk: pseudo.Apply, where it is done. -/
namespace Go.Proofs.YtafmapadkpjliaaGreatDoor.K
open Go.RowKit Go.Lib Go.Proofs.YtafmapadkpjliaaGreatDoorW.PrintWords Go.Proofs.YtafmapadkpjliaaGreatDoor.Sp
set_option linter.unusedVariables false
set_option linter.unusedSimpArgs false
attribute [local go_sem] cel_get   -- for this text's walks alone
theorem ApAt.upto {w0 W W' : World} {p : Pos} {m : Mvi} {n : Nat} (h : ApAt w0 W p m) (hn : w0.heap.size + 1 + 1 < n) (hb : Below n W W') : ApAt w0 W' p m :=
  ⟨(hb.cell (p := ⟨w0.heap.size, 0, none⟩) (by show w0.heap.size < n; omega)).trans h.c0, (hb.cell (p := ⟨w0.heap.size, 1, none⟩) (by show w0.heap.size < n; omega)).trans h.c1, (hb.cell (p := ⟨w0.heap.size, 2, none⟩) (by show w0.heap.size < n; omega)).trans h.c2, (hb.cell (p := ⟨w0.heap.size, 3, none⟩) (by show w0.heap.size < n; omega)).trans h.c3, (hb.cell (p := ⟨w0.heap.size + 1, 0, none⟩) (by show w0.heap.size + 1 < n; omega)).trans h.d0, (hb.cell (p := ⟨w0.heap.size + 1, 1, none⟩) (by show w0.heap.size + 1 < n; omega)).trans h.d1, (hb.cell (p := ⟨w0.heap.size + 1 + 1, 0, none⟩) (by show w0.heap.size + 1 + 1 < n; omega)).trans h.r0, (hb.cell (p := ⟨w0.heap.size + 1 + 1, 1, none⟩) (by show w0.heap.size + 1 + 1 < n; omega)).trans h.r1, (hb.cell (p := ⟨w0.heap.size + 1 + 1, 2, none⟩) (by show w0.heap.size + 1 + 1 < n; omega)).trans h.r2, (hb.cell (p := ⟨w0.heap.size + 1 + 1, 3, none⟩) (by show w0.heap.size + 1 + 1 < n; omega)).trans h.r3, fun k => (hb.frozen (p := ⟨w0.heap.size, k, none⟩) (by show w0.heap.size < n; omega)).trans (h.fp k), fun k => (hb.frozen (p := ⟨w0.heap.size + 1 + 1, k, none⟩) (by show w0.heap.size + 1 + 1 < n; omega)).trans (h.fr k), h.bel.trans (hb.mono (by omega)), Nat.lt_of_lt_of_le h.lt hb.size⟩
theorem bytes_getD (s : ByteArray) (i : Nat) (h : i < s.size) : (bytesOf s).getD i 0 = (cel s i : Int) := by
  have h' : i < s.data.toList.length := by rw [data_length]; exact h
  rw [← cel_get s i h]
  simp [bytesOf, List.getD_eq_getElem?_getD, List.getElem?_eq_getElem h']
  rfl
theorem good_parts {p : Pos} {m : Mvi} (h : goodM p m = true) : (sideN (atS p.cells m.frm) == p.side) = true ∧ (kindN (atS p.cells m.dest) == 75) = false ∧ (allS p.cells m.frm).any (fun n => (n : Int) == m.dest) = true ∧ isBoard p.cells = true ∧ (0 ≤ m.frm ∧ m.frm < 90) ∧ (0 ≤ m.dest ∧ m.dest < 90) := by
  unfold goodM at h
  simp only [Bool.and_eq_true, bne, Bool.not_eq_true'] at h
  obtain ⟨h1, h2, h3⟩ := h
  refine ⟨h1, h2, h3, ?_⟩
  obtain ⟨n, hn, he⟩ := List.any_eq_true.1 h3
  rw [beq_iff_eq] at he
  unfold allS at hn
  split at hn
  · rename_i hb
    have := allN_lt _ _ n hn
    exact ⟨hb.1, hb.2, by omega, by omega⟩
  · simp at hn
set_option maxRecDepth 100000 in
set_option maxHeartbeats 4000000 in
theorem apply_ok (p : Pos) (m : Mvi) (w : World) (hck : checkP p = 0) (hg : goodM p m = true) : Calls Tryz.prog 77 #[posV p, mviV m] w (ApplyIs w p m) := by
  obtain ⟨h1, h2, h3, hb, hf, hd⟩ := good_parts hg
  obtain ⟨m1, m2⟩ := m
  simp only at hf hd h1 h2 h3
  obtain ⟨a, rfl⟩ := Int.eq_ofNat_of_zero_le hf.1
  obtain ⟨b, rfl⟩ := Int.eq_ofNat_of_zero_le hd.1
  have hf1 := hf.2
  have hd1 := hd.2
  clear hf hd
  have HCK := Aside0.mk (fun W => check_c p W)
  have hu := Tryz.underlying23
  have hu2 := Tryz.underlying36
  have HR := Aside0.mk (show applyP p ⟨a, b⟩ = (⟨movedB p.cells a b, 1 - p.side, if atS p.cells (b : Int) = 46 then min (p.clock + 1) 120 else 0, if p.side = 1 then min (p.full + 1) 9999 else p.full⟩, if atS p.cells (b : Int) = 46 then 0 else atS p.cells (b : Int), 0) by unfold applyP; rw [if_neg (by simpa using hck), if_neg (by simpa using hg)]; rfl)
  have HF := Aside0.mk (fun W => at_c p.cells (a : Int) W)
  have HD := Aside0.mk (fun W => at_c p.cells (b : Int) W)
  have HALL := Aside0.mk (fun W => all_c p.cells (a : Int) W)
  have HX := Aside0.mk (show atS p.cells (a : Int) < 256 by unfold atS; split; exact cel_lt _ _; omega)
  have HY := Aside0.mk (show atS p.cells (b : Int) < 256 by unfold atS; split; exact cel_lt _ _; omega)
  have HL := Aside0.mk (show (allS p.cells (a : Int)).length ≤ 1000000 by unfold allS; split; exact Nat.le_trans (allN_len _ _) (by omega); simp)
  have HSZ := Aside0.mk (board_size hb)
  have HBD := Aside0.mk hb
  have hat : argOk p = true := by
    unfold checkP at hck
    cases ha : argOk p
    · rw [ha] at hck; simp at hck
    · rfl
  obtain ⟨_, hside, q1, q2, q3, q4⟩ := argOk_yes hat
  have HSIDE := Aside0.mk hside
  clear hg hb hat hside
  rw [hck] at HCK
  clear hck
  generalize atS p.cells (a : Int) = x at *
  generalize atS p.cells (b : Int) = y at *
  generalize allS p.cells (a : Int) = l at *
  have HS := Aside0.mk (fun W => side_c x HX.out W)
  have HK := Aside0.mk (fun W => kind_c y HY.out W)
  have hk : (((kindN y : Nat) : Int) == 75) = false := by rw [beq_eq_false_iff_ne] at *; omega
  go_enter Tryz.func77, Tryz.ntmps77
  go_wp2_with fail
  refine (HCK.out _).mono ?_
  rintro e w1 ⟨rfl, hb⟩
  have HA := Aside0.mk ((apat_new w p ⟨a, b⟩).below hb)
  clear hb
  have c0 := HA.out.c0
  have c1 := HA.out.c1
  have d0 := HA.out.d0
  go_wp2_with fail
  go_region_held3 (fun W => W.cell? ⟨w.heap.size, 0, none⟩ = some (.string p.cells) ∧ W.cell? ⟨w.heap.size, 1, none⟩ = some (.int .i64 p.side) ∧ W.cell? ⟨w.heap.size + 1, 0, none⟩ = some (.int .i64 (a : Int))) (go_keep)
    (first
      | (go_at_call 73; refine (HF.out _).mono ?_; rintro e w2 ⟨rfl, hb⟩; have HA2 := Aside0.mk (HA.out.drew.below hb); have c0' := HA2.out.c0; have c1' := HA2.out.c1; have d0' := HA2.out.d0; clear hb)
      | (go_at_call 105; refine (HS.out _).mono ?_; rintro e w3 ⟨rfl, rfl⟩))
  clear HA c0 c1 d0 c1' d0'
  have d1 := HA2.out.d1
  go_wp2_with fail
  refine (HD.out _).mono ?_
  rintro e w4 ⟨rfl, hb⟩
  have HA := Aside0.mk (HA2.out.below hb)
  clear hb HA2 c0' d1
  have c0 := HA.out.c0
  have d0 := HA.out.d0
  have d1 := HA.out.d1
  go_wp2_with fail
  go_region_held3 (fun W => W.cell? ⟨w.heap.size, 0, none⟩ = some (.string p.cells) ∧ W.cell? ⟨w.heap.size + 1, 0, none⟩ = some (.int .i64 (a : Int)) ∧ W.cell? ⟨w.heap.size + 1, 1, none⟩ = some (.int .i64 (b : Int))) (go_keep)
    (first
      | (go_at_call 96; refine (HK.out _).mono ?_; rintro e w5 ⟨rfl, rfl⟩)
      | (go_at_call 112; refine (HALL.out _).mono ?_; rintro e w6 ⟨v, rfl, hv, hb⟩; have HA6 := Aside0.mk (HA.out.drew.below hb); have HV := Aside0.mk hv; have c0' := HA6.out.c0; have d0' := HA6.out.d0; have d1' := HA6.out.d1; clear hb hv)
      | (go_at_call 111; refine (containsI_c _ _ _ _ _ HV.out HL.out).mono ?_; rw [h3]; rintro e w7 ⟨rfl, rfl⟩))
  clear c0 d0 d1 c0' d0' d1'
  have c0 := HA6.out.c0
  have kb := fun W => print_bytes (P := Tryz.prog) 9 93 5 Tryz.underlying9 Tryz.underlying93 Tryz.underlying5 p.cells W
  go_wp2_with (simp only [kb])
  have HB := Aside0.mk (bytes_at_new w7 5 p.cells)
  have HA7 := Aside0.mk (HA6.out.below (bytes_below (Below.refl _ _) (Nat.le_refl _) 5 p.cells))
  have HLT := Aside0.mk (Lib.bytesWorld_size w7 5 p.cells)
  generalize Lib.bytesWorld w7 5 p.cells = w8 at *
  have hsz : (p.cells.size : Int) = 90 := by rw [HSZ.out]; rfl
  have d0 := HA7.out.d0
  have d1 := HA7.out.d1
  obtain ⟨ka, fa⟩ := HB.out a (by rw [bytesOf_length, HSZ.out]; omega)
  obtain ⟨kb2, fb⟩ := HB.out b (by rw [bytesOf_length, HSZ.out]; omega)
  have HXA := Aside0.mk (show (bytesOf p.cells).getD a 0 = (cel p.cells a : Int) from bytes_getD p.cells a (by rw [HSZ.out]; omega))
  rw [HXA.out] at ka
  obtain ⟨ks, fs⟩ := (HB.out.set b (cel p.cells a : Int)) a (by rw [List.length_set, bytesOf_length, HSZ.out]; omega)
  generalize ((bytesOf p.cells).set b (cel p.cells a : Int)).getD a 0 = xs at ks
  generalize hxa : cel p.cells a = xa at *
  generalize (bytesOf p.cells).getD b 0 = xb at *
  clear c0 kb
  have hne : w.heap.size + 1 ≠ w7.heap.size := by have := HA6.out.lt; omega
  go_region
  have HA9 := Aside0.mk (HA7.out.upto (n := w7.heap.size) HA6.out.lt (Below.drew (Below.setCell (p := ⟨w7.heap.size, a, none⟩) (Below.setCell (p := ⟨w7.heap.size, b, none⟩) (Below.refl _ _) (Nat.le_refl _) (.int .u8 (xa : Int))) (Nat.le_refl _) (.int .u8 46))))
  have hbs : BytesAt ((w8.setCell ⟨w7.heap.size, b, none⟩ (.int .u8 (xa : Int))).setCell ⟨w7.heap.size, a, none⟩ (.int .u8 46)).drew w7.heap.size (((bytesOf p.cells).set b (xa : Int)).set a 46) := (HB.out.set b (xa : Int)).set a 46
  have kc := bytes_string hbs 93 Tryz.underlying93 (cap := grownCap w7 p.cells.size 0 5)
  rw [List.length_set, List.length_set, bytesOf_length] at kc
  have HMB := Aside0.mk (show movedB p.cells a b = strOfNums (((bytesOf p.cells).set b (xa : Int)).set a 46) by unfold movedB; rw [hxa])
  rw [← HMB.out] at kc
  clear hbs HMB HB
  generalize movedB p.cells a b = mb at *
  clear d0 d1 ka fa kb2 fb ks fs hne HXA HA7
  generalize ((w8.setCell ⟨w7.heap.size, b, none⟩ (.int .u8 (xa : Int))).setCell ⟨w7.heap.size, a, none⟩ (.int .u8 46)).drew = w9 at *
  have HA := HA9
  clear HA9 HA6
  have fp := HA.out.fp
  have fr := HA.out.fr
  have r0 := HA.out.r0
  have r1 := HA.out.r1
  have r2 := HA.out.r2
  have r3 := HA.out.r3
  have c0 := HA.out.c0
  have c1 := HA.out.c1
  have c2 := HA.out.c2
  have c3 := HA.out.c3
  have hy : (((y : Nat) : Int) == 46) = (y == 46) := by rw [Bool.eq_iff_iff, beq_iff_eq, beq_iff_eq]; omega
  have hs0 : 0 ≤ p.side := by have := HSIDE.out; omega
  have hs1 : p.side ≤ 1 := by have := HSIDE.out; omega
  cases hs : (p.side == 1)
  case false =>
    have HS1 := Aside0.mk hs
    go_upto_region 15 with (simp only [kc])
    generalize hW2 : (((w9.setCell ⟨w.heap.size, 0, none⟩ (.string mb)).setCell ⟨w.heap.size, 2, none⟩ (.int .i64 (min (p.clock + 1) 120))).setCell ⟨w.heap.size, 1, none⟩ (.int .i64 (1 - p.side))) = W2
    have k0 : W2.cell? ⟨w.heap.size, 0, none⟩ = some (.string mb) := by rw [← hW2]; simp [go_sem, c0, c1, c2, c3]
    have k1 : W2.cell? ⟨w.heap.size, 1, none⟩ = some (.int .i64 (1 - p.side)) := by rw [← hW2]; simp [go_sem, c0, c1, c2, c3]
    have k2 : W2.cell? ⟨w.heap.size, 2, none⟩ = some (.int .i64 (min (p.clock + 1) 120)) := by rw [← hW2]; simp [go_sem, c0, c1, c2, c3]
    have k3 : W2.cell? ⟨w.heap.size, 3, none⟩ = some (.int .i64 (p.full)) := by rw [← hW2]; simp [go_sem, c0, c1, c2, c3]
    have HB2 : Aside0 (Below w.heap.size w W2) := Aside0.mk (by rw [← hW2]; (repeat' (first | (with_reducible exact Below.refl _ _) | (with_reducible refine pw_below_drewN ?_ _) | (with_reducible refine below_alloc ?_ _) | (with_reducible refine Below.drew ?_) | (with_reducible refine Below.setCell ?_ ?_ _) | (simp; done))) <;> first | exact HA.out.bel | (simp; done) | (simp; omega))
    have t0 : W2.cell? ⟨w.heap.size + 1 + 1, 0, none⟩ = some (.string ByteArray.empty) := by rw [← hW2]; simp [go_sem, r0]
    have t1 : W2.cell? ⟨w.heap.size + 1 + 1, 1, none⟩ = some (.int .i64 0) := by rw [← hW2]; simp [go_sem, r1]
    have t2 : W2.cell? ⟨w.heap.size + 1 + 1, 2, none⟩ = some (.int .i64 0) := by rw [← hW2]; simp [go_sem, r2]
    have t3 : W2.cell? ⟨w.heap.size + 1 + 1, 3, none⟩ = some (.int .i64 0) := by rw [← hW2]; simp [go_sem, r3]
    have fp2 : ∀ k, W2.frozen? ⟨w.heap.size, k, none⟩ = false := fun k => by rw [← hW2]; simp [go_sem, fp]
    have fr2 : ∀ k, W2.frozen? ⟨w.heap.size + 1 + 1, k, none⟩ = false := fun k => by rw [← hW2]; simp [go_sem, fr]
    clear fp fr r0 r1 r2 r3 c0 c1 c2 c3 kc hW2
    generalize (1 - p.side) = ns at *
    generalize hmc : min (p.clock + 1) 120 = mc at k2
    generalize hmf : (p.full) = mf at k3
    have HMC := Aside0.mk hmc
    have HMF := Aside0.mk hmf
    clear hmc hmf q1 q2 q3 q4 hs0 hs1 hs
    cases hz : (y == 46)
    all_goals
      rw [hz] at hy
      have HY46 := Aside0.mk hz
      clear hz
      go_wp2_with fail
      refine bodyPost_ret (by simp [results, Tryz.results77, go_sem, t0, t1, t2, t3]; try rfl) rfl ?_
      refine ⟨?_, by (repeat' (first | (with_reducible exact Below.refl _ _) | (with_reducible refine pw_below_drewN ?_ _) | (with_reducible refine below_alloc ?_ _) | (with_reducible refine Below.drew ?_) | (with_reducible refine Below.setCell ?_ ?_ _) | (simp; done))) <;> first | exact HB2.out | (simp; done) | (simp; omega)⟩
      rw [HR.out]
      have y1 := HY46.out
      have s1 := HS1.out
      simp only [beq_iff_eq, beq_eq_false_iff_ne] at y1 s1
      simp [y1, s1, HMC.out, HMF.out] <;> exact HMC.out.symm
  case true =>
    have HS1 := Aside0.mk hs
    go_upto_region 15 with (simp only [kc])
    generalize hW2 : ((((w9.setCell ⟨w.heap.size, 0, none⟩ (.string mb)).setCell ⟨w.heap.size, 2, none⟩ (.int .i64 (min (p.clock + 1) 120))).setCell ⟨w.heap.size, 3, none⟩ (.int .i64 (min (p.full + 1) 9999))).setCell ⟨w.heap.size, 1, none⟩ (.int .i64 (1 - p.side))) = W2
    have k0 : W2.cell? ⟨w.heap.size, 0, none⟩ = some (.string mb) := by rw [← hW2]; simp [go_sem, c0, c1, c2, c3]
    have k1 : W2.cell? ⟨w.heap.size, 1, none⟩ = some (.int .i64 (1 - p.side)) := by rw [← hW2]; simp [go_sem, c0, c1, c2, c3]
    have k2 : W2.cell? ⟨w.heap.size, 2, none⟩ = some (.int .i64 (min (p.clock + 1) 120)) := by rw [← hW2]; simp [go_sem, c0, c1, c2, c3]
    have k3 : W2.cell? ⟨w.heap.size, 3, none⟩ = some (.int .i64 (min (p.full + 1) 9999)) := by rw [← hW2]; simp [go_sem, c0, c1, c2, c3]
    have HB2 : Aside0 (Below w.heap.size w W2) := Aside0.mk (by rw [← hW2]; (repeat' (first | (with_reducible exact Below.refl _ _) | (with_reducible refine pw_below_drewN ?_ _) | (with_reducible refine below_alloc ?_ _) | (with_reducible refine Below.drew ?_) | (with_reducible refine Below.setCell ?_ ?_ _) | (simp; done))) <;> first | exact HA.out.bel | (simp; done) | (simp; omega))
    have t0 : W2.cell? ⟨w.heap.size + 1 + 1, 0, none⟩ = some (.string ByteArray.empty) := by rw [← hW2]; simp [go_sem, r0]
    have t1 : W2.cell? ⟨w.heap.size + 1 + 1, 1, none⟩ = some (.int .i64 0) := by rw [← hW2]; simp [go_sem, r1]
    have t2 : W2.cell? ⟨w.heap.size + 1 + 1, 2, none⟩ = some (.int .i64 0) := by rw [← hW2]; simp [go_sem, r2]
    have t3 : W2.cell? ⟨w.heap.size + 1 + 1, 3, none⟩ = some (.int .i64 0) := by rw [← hW2]; simp [go_sem, r3]
    have fp2 : ∀ k, W2.frozen? ⟨w.heap.size, k, none⟩ = false := fun k => by rw [← hW2]; simp [go_sem, fp]
    have fr2 : ∀ k, W2.frozen? ⟨w.heap.size + 1 + 1, k, none⟩ = false := fun k => by rw [← hW2]; simp [go_sem, fr]
    clear fp fr r0 r1 r2 r3 c0 c1 c2 c3 kc hW2
    generalize (1 - p.side) = ns at *
    generalize hmc : min (p.clock + 1) 120 = mc at k2
    generalize hmf : (min (p.full + 1) 9999) = mf at k3
    have HMC := Aside0.mk hmc
    have HMF := Aside0.mk hmf
    clear hmc hmf q1 q2 q3 q4 hs0 hs1 hs
    cases hz : (y == 46)
    all_goals
      rw [hz] at hy
      have HY46 := Aside0.mk hz
      clear hz
      go_wp2_with fail
      refine bodyPost_ret (by simp [results, Tryz.results77, go_sem, t0, t1, t2, t3]; try rfl) rfl ?_
      refine ⟨?_, by (repeat' (first | (with_reducible exact Below.refl _ _) | (with_reducible refine pw_below_drewN ?_ _) | (with_reducible refine below_alloc ?_ _) | (with_reducible refine Below.drew ?_) | (with_reducible refine Below.setCell ?_ ?_ _) | (simp; done))) <;> first | exact HB2.out | (simp; done) | (simp; omega)⟩
      rw [HR.out]
      have y1 := HY46.out
      have s1 := HS1.out
      simp only [beq_iff_eq, beq_eq_false_iff_ne] at y1 s1
      simp [y1, s1, HMC.out, HMF.out] <;> exact HMC.out.symm
theorem apply_c (p : Pos) (m : Mvi) (w : World) : Calls Tryz.prog 77 #[posV p, mviV m] w (ApplyIs w p m) := by
  by_cases h1 : checkP p = 0
  · cases h2 : goodM p m
    · exact apply_bad p m w h1 h2
    · exact apply_ok p m w h1 h2
  · exact apply_no p m w h1
end Go.Proofs.YtafmapadkpjliaaGreatDoor.K

/- Plain law: behind a move a position is right. -/
namespace Go.Proofs.YtafmapadkpjliaaGreatDoor.K
open Go.RowKit Go.Lib Go.Proofs.YtafmapadkpjliaaGreatDoorW.PrintWords Go.Proofs.YtafmapadkpjliaaGreatDoor.Sp
set_option linter.unusedVariables false
/-- Something else on one square. -/
def setC (c : Nat → Nat) (n v : Nat) : Nat → Nat := fun i => if i = n then v else c i
def cntC (c : Nat → Nat) (N x : Nat) : Nat := (List.range N).countP (fun i => c i == x)
theorem cntC_succ (c : Nat → Nat) (N x : Nat) : cntC c (N + 1) x = cntC c N x + (if c N = x then 1 else 0) := by
  unfold cntC
  rw [List.range_succ, List.countP_append]
  simp [List.countP_cons]
theorem cnt_set (c : Nat → Nat) (n v x : Nat) : ∀ N, (n < N → cntC (setC c n v) N x + (if c n = x then 1 else 0) = cntC c N x + (if v = x then 1 else 0)) ∧ (N ≤ n → cntC (setC c n v) N x = cntC c N x)
  | 0 => ⟨fun h => by omega, fun _ => rfl⟩
  | N + 1 => by
    obtain ⟨h1, h2⟩ := cnt_set c n v x N
    rw [cntC_succ, cntC_succ]
    have e : setC c n v N = if N = n then v else c N := rfl
    constructor
    · intro h
      by_cases hN : N = n
      · subst hN
        rw [h2 (Nat.le_refl _), e, if_pos rfl]
        omega
      · have := h1 (by omega)
        rw [show setC c n v N = c N from if_neg hN]
        omega
    · intro h
      rw [h2 (by omega), show setC c n v N = c N from if_neg (by omega)]
theorem cntC_congr {c d : Nat → Nat} {N : Nat} (h : ∀ n, n < N → c n = d n) (x : Nat) : cntC c N x = cntC d N x := by
  unfold cntC
  exact List.countP_congr (fun i hi => by rw [h i (List.mem_range.1 hi)])
/-- The squares of a board behind a move. -/
def moveC (c : Nat → Nat) (a b : Nat) : Nat → Nat := setC (setC c b (c a)) a 46
theorem cnt_move {c : Nat → Nat} {a b : Nat} (ha : a < 90) (hb : b < 90) (hab : a ≠ b) (x : Nat) : cntC (moveC c a b) 90 x + (if c b = x then 1 else 0) = cntC c 90 x + (if 46 = x then 1 else 0) := by
  have h1 := (cnt_set (setC c b (c a)) a 46 x 90).1 ha
  have h2 := (cnt_set c b (c a) x 90).1 hb
  rw [show setC c b (c a) a = c a from if_neg hab] at h1
  unfold moveC
  omega
theorem fast_may : ∀ x ∈ letters, 0 ≤ sideN x → kindN x = 80 → ∀ a b : Fin 90, mayN x a.1 = true → pawnN (sideN x) a.1 b.1 = true → mayN x b.1 = true := by decide +kernel
theorem may_move {c : Nat → Nat} {a b : Nat} (ha : a < 90) (hb : b < 90) (hl : c a ∈ letters) (hm : mayN (c a) a = true) (h : fastN c a b = true) : mayN (c a) b = true := by
  have hs : 0 ≤ sideN (c a) := by
    unfold fastN at h
    simp only [Bool.and_eq_true, decide_eq_true_eq] at h
    exact h.1.1
  have hc : canN c a b = true := by
    unfold fastN at h
    simp only [Bool.and_eq_true] at h
    exact h.2
  have hk := kinds hs
  unfold canN at hc
  rcases hk with k | k | k | k | k | k | k
  · rw [if_pos k] at hc; simp only [Bool.and_eq_true] at hc; exact hc.2
  · rw [if_neg (by omega), if_pos k] at hc; simp only [Bool.and_eq_true] at hc; exact hc.2
  · rw [if_neg (by omega), if_neg (by omega), if_pos k] at hc; simp only [Bool.and_eq_true] at hc; exact hc.1.2
  · unfold mayN; rw [if_neg (by omega), if_neg (by omega), if_neg (by omega), if_neg (by omega), if_neg (by omega)]
  · unfold mayN; rw [if_neg (by omega), if_neg (by omega), if_neg (by omega), if_neg (by omega), if_neg (by omega)]
  · unfold mayN; rw [if_neg (by omega), if_neg (by omega), if_neg (by omega), if_neg (by omega), if_neg (by omega)]
  · rw [if_neg (by omega), if_neg (by omega), if_neg (by omega), if_neg (by omega), if_neg (by omega), if_neg (by omega)] at hc
    exact fast_may _ hl hs k ⟨a, ha⟩ ⟨b, hb⟩ hm hc
theorem cel_nums (xs : List Int) (n : Nat) (hn : n < xs.length) (h : 0 ≤ xs[n] ∧ xs[n] < 256) : cel (strOfNums xs) n = (xs[n]).toNat := by
  have hs : n < (strOfNums xs).size := by simp [strOfNums, ByteArray.size]; omega
  rw [← cel_get _ n hs]
  have e : (strOfNums xs)[n]'hs = UInt8.ofNat (xs[n]).toNat := by
    show ((xs.map fun n => UInt8.ofNat n.toNat).toArray)[n]'(by simpa using hn) = _
    simp
  rw [e]
  simp only [UInt8.toNat_ofNat']
  omega
theorem moved_size (s : ByteArray) (a b : Nat) : (movedB s a b).size = s.size := by
  have h : ∀ xs : List Int, (strOfNums xs).size = xs.length := fun xs => by simp [strOfNums, ByteArray.size]
  unfold movedB
  rw [h, List.length_set, List.length_set, bytesOf_length]
theorem moved_cel {s : ByteArray} {a b n : Nat} (ha : a < s.size) (hb : b < s.size) (hn : n < s.size) : cel (movedB s a b) n = moveC (cel s) a b n := by
  have hl : (((bytesOf s).set b (cel s a)).set a 46).length = s.size := by rw [List.length_set, List.length_set, bytesOf_length]
  have hg : (((bytesOf s).set b (cel s a)).set a 46)[n]'(by omega) = (moveC (cel s) a b n : Int) := by
    rw [List.getElem_set]
    unfold moveC setC
    by_cases h1 : n = a
    · rw [if_pos h1.symm, if_pos h1]; rfl
    · rw [if_neg (Ne.symm h1), if_neg h1, List.getElem_set]
      by_cases h2 : n = b
      · rw [if_pos h2.symm, if_pos h2]
      · rw [if_neg (Ne.symm h2), if_neg h2]
        have := bytes_getD s n hn
        rw [List.getD_eq_getElem?_getD, List.getElem?_eq_getElem (by rw [bytesOf_length]; exact hn)] at this
        exact this
  have hlt : moveC (cel s) a b n < 256 := by
    unfold moveC setC
    split
    · omega
    · split <;> exact cel_lt _ _
  unfold movedB
  rw [cel_nums _ n (by omega) (by rw [hg]; omega), hg]
  simp
end Go.Proofs.YtafmapadkpjliaaGreatDoor.K

/- Plain law: behind a move a position is right; its pieces. -/
namespace Go.Proofs.YtafmapadkpjliaaGreatDoor.K
open Go.RowKit Go.Lib Go.Proofs.YtafmapadkpjliaaGreatDoorW.PrintWords Go.Proofs.YtafmapadkpjliaaGreatDoor.Sp
set_option linter.unusedVariables false
theorem checkP_parts {p : Pos} (h : checkP p = 0) : argOk p = true ∧ (∀ x ∈ pieces14, badX p.cells x = false) ∧ (∀ n, n < 90 → cel p.cells n = 46 ∨ mayN (cel p.cells n) n = true) := by
  have ha := checkP_board h
  unfold checkP at h
  rw [if_neg (by rw [ha]; simp)] at h
  cases h1 : pieces14.any (badX p.cells)
  · rw [h1] at h
    cases h2 : rightX p.cells 90
    · rw [h2] at h; simp at h
    · refine ⟨ha, fun x hx => ?_, fun n hn => ?_⟩
      · rw [List.any_eq_false] at h1
        simpa using h1 x hx
      · unfold rightX at h2
        rw [List.all_eq_true] at h2
        have := h2 n (List.mem_range.2 hn)
        simp only [Bool.or_eq_true, beq_iff_eq] at this
        exact this
  · rw [h1] at h; simp at h
theorem checkP_mk {p : Pos} (ha : argOk p = true) (hb : ∀ x ∈ pieces14, badX p.cells x = false) (hr : ∀ n, n < 90 → cel p.cells n = 46 ∨ mayN (cel p.cells n) n = true) : checkP p = 0 := by
  unfold checkP
  rw [if_neg (by rw [ha]; simp), if_neg, if_neg]
  · have : rightX p.cells 90 = true := by
      unfold rightX
      rw [List.all_eq_true]
      intro n hn
      simp only [Bool.or_eq_true, beq_iff_eq]
      exact hr n (List.mem_range.1 hn)
    simp [this]
  · have : pieces14.any (badX p.cells) = false := by
      rw [List.any_eq_false]
      intro x hx
      simp [hb x hx]
    simp [this]
/-- What is known of a move of a position. -/
theorem move_parts {p : Pos} {a b : Nat} (hck : checkP p = 0) (ha : a < 90) (hb : b < 90) (hs : sideN (cel p.cells a) = p.side) (hf : fastN (cel p.cells) a b = true) :
    atS p.cells (a : Int) = cel p.cells a ∧ atS p.cells (b : Int) = cel p.cells b ∧ allS p.cells (a : Int) = allN (cel p.cells) a ∧ a ≠ b ∧ 0 ≤ sideN (cel p.cells a) := by
  have hbd := (argOk_yes (checkP_parts hck).1).1
  have hf' := hf
  unfold fastN at hf'
  simp only [Bool.and_eq_true, decide_eq_true_eq, bne_iff_ne, ne_eq] at hf'
  refine ⟨?_, ?_, ?_, ?_, hf'.1.1⟩
  · unfold atS; rw [if_pos ⟨hbd, by omega, by omega⟩]; rfl
  · unfold atS; rw [if_pos ⟨hbd, by omega, by omega⟩]; rfl
  · unfold allS; rw [if_pos ⟨hbd, by omega, by omega⟩]; rfl
  · rintro rfl; exact hf'.1.2 rfl
theorem good_move {p : Pos} {a b : Nat} (hck : checkP p = 0) (ha : a < 90) (hb : b < 90) (hs : sideN (cel p.cells a) = p.side) (hf : fastN (cel p.cells) a b = true) : goodM p ⟨a, b⟩ = (kindN (cel p.cells b) != 75) := by
  obtain ⟨h1, h2, h3, _, _⟩ := move_parts hck ha hb hs hf
  unfold goodM
  simp only
  rw [h1, h2, h3, hs]
  have : (allN (cel p.cells) a).any (fun n => (n : Int) == (b : Int)) = true := by
    rw [List.any_eq_true]
    exact ⟨b, List.mem_filter.2 ⟨List.mem_range.2 hb, hf⟩, by simp⟩
  rw [this]
  simp
theorem right_after {p : Pos} {a b : Nat} (hck : checkP p = 0) (ha : a < 90) (hb : b < 90) (hs : sideN (cel p.cells a) = p.side) (hf : fastN (cel p.cells) a b = true) (hk : kindN (cel p.cells b) ≠ 75) (ck fl : Int) (hc : 0 ≤ ck ∧ ck ≤ 120) (hfl : 1 ≤ fl ∧ fl ≤ 9999) :
    checkP ⟨movedB p.cells a b, 1 - p.side, ck, fl⟩ = 0 ∧ isBoard (movedB p.cells a b) = true ∧ cntX (movedB p.cells a b) 90 46 = cntX p.cells 90 46 + (if cel p.cells b = 46 then 0 else 1) := by
  obtain ⟨hao, hbad, hri⟩ := checkP_parts hck
  obtain ⟨hbd, hsd, _⟩ := argOk_yes hao
  obtain ⟨_, _, _, hab, h0⟩ := move_parts hck ha hb hs hf
  have hsz := board_size hbd
  have hcel : ∀ n, n < 90 → cel (movedB p.cells a b) n = moveC (cel p.cells) a b n := fun n hn => moved_cel (by omega) (by omega) (by omega)
  have hlet : ∀ n, n < 90 → moveC (cel p.cells) a b n ∈ letters := by
    intro n hn
    unfold moveC setC
    split
    · decide
    · split
      · exact board_cell hbd ha
      · exact board_cell hbd hn
  have hcb : ∀ x ∈ letters, cellB x = true := by decide
  have hmb : isBoard (movedB p.cells a b) = true := (board_iff _ (by rw [moved_size, hsz])).2 (fun n hn => by rw [hcel n hn]; exact hcb _ (hlet n hn))
  have hcnt : ∀ x, cntX (movedB p.cells a b) 90 x + (if cel p.cells b = x then 1 else 0) = cntX p.cells 90 x + (if 46 = x then 1 else 0) := by
    intro x
    have h := cnt_move (c := cel p.cells) ha hb hab x
    have e : cntX (movedB p.cells a b) 90 x = cntC (moveC (cel p.cells) a b) 90 x := cntC_congr hcel x
    rw [e]
    exact h
  refine ⟨checkP_mk ?_ ?_ ?_, hmb, ?_⟩
  · unfold argOk
    simp only
    rw [hmb]
    simp only [Bool.true_and, decide_eq_true_eq]
    omega
  · intro x hx
    have h := hbad x hx
    have hc := hcnt x
    have hx46 : ∀ x ∈ pieces14, (46 : Nat) ≠ x := by decide
    rw [if_neg (hx46 x hx)] at hc
    unfold badX at h ⊢
    simp only [Bool.or_eq_false_iff, decide_eq_false_iff_not, Bool.and_eq_false_iff, beq_eq_false_iff_ne, bne_eq_false_iff_eq] at h ⊢
    obtain ⟨h1, h2⟩ := h
    refine ⟨by split at hc <;> omega, ?_⟩
    rcases h2 with h2 | h2
    · exact .inl h2
    · by_cases h3 : cel p.cells b = x
      · left
        rw [← h3]
        exact hk
      · right
        rw [if_neg h3] at hc
        omega
  · intro n hn
    simp only
    rw [hcel n hn]
    unfold moveC setC
    by_cases h1 : n = a
    · rw [if_pos h1]; exact .inl rfl
    · rw [if_neg h1]
      by_cases h2 : n = b
      · rw [if_pos h2, h2]
        rcases hri a ha with h3 | h3
        · rw [h3] at h0; exact absurd h0 (by decide)
        · exact .inr (may_move ha hb (board_cell hbd ha) h3 hf)
      · rw [if_neg h2]; exact hri n hn
  · have := hcnt 46
    rw [if_pos rfl] at this
    split at this
    · rename_i h; rw [if_pos h]; omega
    · rename_i h; rw [if_neg h]; omega
/-- One move stands ahead of another. -/
def aheadM (m n : Mv) : Prop := m.1 < n.1 ∨ (m.1 = n.1 ∧ m.2 < n.2)
theorem from_pair (s : ByteArray) (side : Int) (q : Nat → Bool) (a : Nat) : (fromM s side q a).Pairwise aheadM ∧ ∀ m ∈ fromM s side q a, m.1 = a := by
  unfold fromM
  split
  · constructor
    · rw [List.pairwise_map]
      have h : ((allN (cel s) a).filter (fun b => q (cel s b))).Pairwise (· < ·) := by
        unfold allN
        exact (List.pairwise_lt_range.filter _).filter _
      exact h.imp (fun h => .inr ⟨rfl, h⟩)
    · intro m hm
      obtain ⟨b, _, rfl⟩ := List.mem_map.1 hm
      rfl
  · exact ⟨List.Pairwise.nil, fun m hm => by simp at hm⟩
theorem gath_pair (s : ByteArray) (side : Int) (q : Nat → Bool) : ∀ n, (gathM s side q n).Pairwise aheadM ∧ ∀ m ∈ gathM s side q n, m.1 < n
  | 0 => ⟨by simp [gathM], fun m hm => by simp [gathM] at hm⟩
  | n + 1 => by
    obtain ⟨h1, h2⟩ := gath_pair s side q n
    obtain ⟨h3, h4⟩ := from_pair s side q n
    rw [gathM_succ]
    refine ⟨List.pairwise_append.2 ⟨h1, h3, fun x hx y hy => .inl (by rw [h4 y hy]; exact h2 x hx)⟩, fun m hm => ?_⟩
    rcases List.mem_append.1 hm with h | h
    · have := h2 m h; omega
    · rw [h4 m h]; omega
theorem gathP_pair (p : Pos) (q : Nat → Bool) : (gathP p q).Pairwise aheadM := by
  unfold gathP
  split
  · exact (gath_pair _ _ _ 90).1
  · exact List.Pairwise.nil
end Go.Proofs.YtafmapadkpjliaaGreatDoor.K

/- Walks: a set's iterator, gathered into a list (3): AppendSeq, Collect, List. -/
namespace Go.Proofs.YtafmapadkpjliaaGreatDoor.K
open Go.RowKit Go.Lib Go.Shelf Go.Maps Go.Sort Go.Proofs.YtafmapadkpjliaaGreatDoorW.PrintWords Go.Proofs.YtafmapadkpjliaaGreatDoor.Sp
set_option linter.unusedVariables false
set_option linter.unusedSimpArgs false
/-- The iterator's value. -/
abbrev svZ (Bm : Nat) : Value := .func (.func 197) #[] #[.pointer (some ⟨Bm, 0, none⟩)]
set_option maxRecDepth 100000 in
set_option maxHeartbeats 2000000 in
theorem append_s (f : Nat → Bool) (n : Nat) (hn : 2 ≤ n) (w00 w : World) (Bm : Nat) (hT : TabW w00) (hb00 : Below w00.heap.size w00 w) (hm : w00.heap.size ≤ Bm) (hbx : BoxAt Bm (loB f) (hiB f) w) :
    CallsIn Fence.wide n Tryz.prog (renZ.f 11) #[.slice none 0 0, svZ Bm] w fun e w' => ∃ (v : Value), e = .returned v ∧ w'.ownsRow w.heap.size (renZ.t 26) 1 v (memL f).length ((toI (memL f)).map encZ) ∧ (v = .slice none 0 0 ↔ memL f = []) ∧ Below w00.heap.size w00 w' := by
  have L : SlLaysZI.n11 Tryz.prog renZ := { laysZ with }
  have hro : Fence.wide.round = none := rfl
  have h1 : 1 ≤ n := by omega
  have mixed := L.mixed; have t0 := L.t0; have a0 := L.a0; have z0 := L.z0; have v0 := L.v0; have t24 := L.t24; have a24 := L.a24; have z24 := L.z24; have v24 := L.v24; have t26 := L.t26; have a26 := L.a26; have z26 := L.z26; have v26 := L.v26; have t28 := L.t28; have a28 := L.a28; have z28 := L.z28; have v28 := L.v28
  have hne : renZ.t 24 ≠ renZ.t 26 := fun e => by have h := L.t24; rw [e, L.t26] at h; cases h
  have u0 := run_underlying L.t0; have u24 := run_underlying L.t24; have u26 := run_underlying L.t26; have u28 := run_underlying L.t28
  obtain ⟨_, _, FG⟩ := L.f11
  refine callsIn_of_wp_marks FG rfl trivial ?_ hro
  simp only [SlBodyZ.n11_ntmps renZ, List.size_toArray, List.length_cons, List.length_nil, Nat.reduceAdd, Nat.reduceSub, Array.replicate_succ, Array.replicate_zero, List.push_toArray, List.append_toArray, List.nil_append, List.cons_append]
  gi_wp2
  refine wpIn_rangeFunc ?_
  intro fn hfn
  rw [hro]
  obtain ⟨W0, hW0⟩ : ∃ W0, w.alloc (.cells #[.slice none 0 0] (renZ.t 24)) = W0 := ⟨_, rfl⟩
  have hs0 : W0.heap.size = w.heap.size + 1 := by rw [← hW0]; simp
  have hv0 : W0.heap[w.heap.size]? = some (.cells #[.slice none 0 0] (renZ.t 24) (0, 0)) := by rw [← hW0]; exact World.alloc_heap_new w _
  have hb0 : Below w.heap.size w W0 := by rw [← hW0]; exact (Below.refl _ w).alloc (Nat.le_refl _) _
  rw [hW0]
  obtain ⟨W1, hW1⟩ : ∃ W1, (W0.alloc (.deferred (some []))).alloc (.loop (AnyZI.apRec renZ fn (svZ Bm) w.heap.size W0.heap.size .ready none)) = W1 := ⟨_, rfl⟩
  have hold : ∀ k, k < W0.heap.size → W1.heap[k]? = W0.heap[k]? := fun k hk => by
    rw [← hW1]; exact (Below.heap_alloc _ _ k (by simp; omega)).trans (Below.heap_alloc _ _ k hk)
  have hb1 : Below w.heap.size w W1 := by rw [← hW1]; exact (hb0.alloc hb0.size _).alloc (by have := hb0.size; simp; omega) _
  have hs1 : W1.heap.size = W0.heap.size + 2 := by rw [← hW1]; simp
  have hM : AnyZI.ApAt renZ w fn (svZ Bm) w.heap.size (W0.heap.size + 1) W0.heap.size [] W1 :=
    ⟨⟨_, (hold w.heap.size (by omega)).trans hv0, ⟨rfl, .inl ⟨rfl, rfl⟩⟩, by simp⟩,
     by rw [← hW1]; have := World.alloc_heap_new (W0.alloc (.deferred (some []))) (.loop (AnyZI.apRec renZ fn (svZ Bm) w.heap.size W0.heap.size .ready none)); rwa [World.size_alloc] at this,
     by rw [← hW1]; exact (Below.heap_alloc _ _ _ (by simp)).trans (World.alloc_heap_new W0 _), hb1⟩
  have eg : ∀ args w, (callFunc 197 args).run Tryz.prog w = .ok (.enter 197 args) w := enters_of Tryz.func197 (by kernel_rfl) rfl
  have hJ : JAt w00 w.heap.size Bm fn (svZ Bm) w.heap.size (W0.heap.size + 1) W0.heap.size (loB f) (hiB f) [] W1 := ⟨w, rfl, hb00, hbx, hM⟩
  refine ⟨W0.heap.size + 1, [{ target := .collected W0.heap.size, args := #[] }], W1, { target := .fn (.func 197) #[.pointer (some ⟨Bm, 0, none⟩)], args := #[.func (.yield (W0.heap.size + 1)) #[] #[]] }, W1, 197,
    #[.func (.yield (W0.heap.size + 1)) #[] #[], .pointer (some ⟨Bm, 0, none⟩)], W1, ?_, ?_, ?_, ?_, fun _ => h1, ?_⟩
  · rw [← hW1]; exact run_enterLoop_outer _ _ _ _ _
  · simp [resolve, go_sem]
  · intro f' hf'; trivial
  · simp [invoke, go_sem, eg]
  · refine (each1_in f (n - 1) (by omega) w00 hT w.heap.size Bm fn (svZ Bm) w.heap.size (W0.heap.size + 1) W0.heap.size hm (by omega) (by omega) (by omega) (by omega) (by omega) (by omega) W1 hJ).mono ?_
    rintro e W2 ⟨⟨v0, rfl⟩, a, b, w0', hs', hb', hx', h2⟩
    obtain ⟨v, hv, hrow, hnil⟩ := h2.box
    have hend := run_endLoop (P := Tryz.prog) h2.L (by simp [AnyZI.apRec])
    obtain ⟨W3, hW3⟩ : ∃ W3, W2.putObj (W0.heap.size + 1) (.loop { AnyZI.apRec renZ fn (svZ Bm) w.heap.size W0.heap.size .ready none with state := .exhausted }) = W3 := ⟨_, rfl⟩
    rw [hW3] at hend
    have hg3 : W2.grownBy W3 (some (W0.heap.size + 1)) := by rw [← hW3]; exact grownBy_putObj_a _ _ _
    have hv3 : W3.heap[w.heap.size]? = some (.cells #[v] (renZ.t 24) (0, 0)) := by rw [← hW3]; exact (World.putObj_heap_other (by omega)).trans hv
    have hK3 : W3.heap[W0.heap.size]? = some (.deferred (some [])) := by rw [← hW3]; exact (World.putObj_heap_other (by omega)).trans h2.K
    have hrow3 := hrow.kept hg3 (ownsRow_ne_a hrow h2.L (fun cur e => by first | cases e | exact hne (Obj.cells.inj e).2.1))
    have hb3 : Below w0'.heap.size w0' W3 := h2.below.grown hg3 h2.below.size (fun k e => by cases e; omega)
    obtain ⟨hc3, hf3⟩ := cell_of_box_a hv3
    clear hW3
    refine ⟨none, W3, hend, ?_⟩
    gi_wp2
    rw [← hs0]
    refine ⟨by simp, .inl ⟨_, _, rfl, run_takeDeferred hK3, ?_⟩⟩
    rw [hs'] at hrow3
    have hfin := hb3.grown (grownBy_putObj_a _ W0.heap.size (.deferred none)) hb3.size (fun k e => by cases e; omega)
    refine ⟨_, results_tmp rfl _ _ _, v, rfl, ?_, by rw [hnil]; simp, hb'.trans (hfin.mono hb'.size)⟩
    have hlen : (toI (memL f)).length = (memL f).length := by simp
    rw [← hlen]
    exact hrow3.kept (grownBy_putObj_a _ _ _) (ownsRow_ne_a hrow3 hK3 (fun cur e => by first | cases e | exact hne (Obj.cells.inj e).2.1))
set_option maxRecDepth 100000 in
set_option maxHeartbeats 1000000 in
theorem collect_s (f : Nat → Bool) (n : Nat) (hn : 3 ≤ n) (w00 w : World) (Bm : Nat) (hT : TabW w00) (hb00 : Below w00.heap.size w00 w) (hm : w00.heap.size ≤ Bm) (hbx : BoxAt Bm (loB f) (hiB f) w) :
    CallsIn Fence.wide n Tryz.prog 174 #[svZ Bm] w fun e w' => ∃ (v : Value), e = .returned v ∧ w'.ownsRow w.heap.size 3 1 v (memL f).length ((toI (memL f)).map encZ) ∧ (v = .slice none 0 0 ↔ memL f = []) ∧ Below w00.heap.size w00 w' := by
  have H : ∀ (W : World), W = w → CallsIn Fence.wide (n - 1) Tryz.prog 196 #[.slice none 0 0, svZ Bm] W fun e w' => ∃ (v : Value), e = .returned v ∧ w'.ownsRow w.heap.size 3 1 v (memL f).length ((toI (memL f)).map encZ) ∧ (v = .slice none 0 0 ↔ memL f = []) ∧ Below w00.heap.size w00 w' := by
    rintro W rfl
    exact append_s f (n - 1) (by omega) w00 W Bm hT hb00 hm hbx
  have h1 : 1 ≤ n := by omega
  refine callsIn_of_wp Tryz.func174 rfl trivial ?_ rfl
  simp only [Tryz.ntmps174, List.size_toArray, List.length_cons, List.length_nil, Nat.reduceAdd, Nat.reduceSub, Array.replicate_succ, Array.replicate_zero, List.push_toArray, List.append_toArray, List.nil_append, List.cons_append]
  gi_wp2_with (refine ⟨trivial, ?_⟩; gi_at_call 196; refine (H _ rfl).mono ?_; rintro e w' ⟨v, rfl, hrow, hnil, hb⟩)
  go_ret
  exact ⟨v, rfl, hrow, hnil, hb⟩
set_option maxHeartbeats 1000000 in
theorem each_c (a b : Nat) (w : World) : Calls Tryz.prog 175 #[setV a b] w fun e w' => e = .returned (svZ w.heap.size) ∧ BoxAt w.heap.size a b w' ∧ Below w.heap.size w w' := by
  have hu := Tryz.underlying160
  have HS := Aside0.mk (SvAt.new w a b)
  go_enter Tryz.func175, Tryz.ntmps175
  go_wp2_with fail
  go_ret
  exact ⟨rfl, ⟨HS.out.e0, HS.out.e1, HS.out.fz⟩, HS.out.bel⟩
set_option maxRecDepth 100000 in
set_option maxHeartbeats 1000000 in
/-- The squares of a set, rising. -/
theorem list_c (f : Nat → Bool) (w : World) (hT : TabW w) : Calls Tryz.prog 158 #[setF f] w fun e w' => ∃ v, e = .returned v ∧ OwnZ w' w.heap.size v (ints (memL f)) ∧ Below w.heap.size w w' := by
  show Calls Tryz.prog 158 #[setV (loB f) (hiB f)] w fun e w' => ∃ v, e = .returned v ∧ OwnZ w' w.heap.size v (ints (memL f)) ∧ Below w.heap.size w w'
  have HE := Aside0.mk (fun W => each_c (loB f) (hiB f) W)
  have HC := Aside0.mk (fun (W : World) (hb00 : Below w.heap.size w W) (Bm : Nat) (hm : w.heap.size ≤ Bm) (hbx : BoxAt Bm (loB f) (hiB f) W) => callsIn_wide.1 (collect_s f 3 (by omega) w W Bm hT hb00 hm hbx))
  have hO : ∀ (W' : World) (v : Value) (B : Nat), w.heap.size ≤ B → W'.ownsRow B 3 1 v (memL f).length ((toI (memL f)).map encZ) → OwnZ W' w.heap.size v (ints (memL f)) := by
    intro W' v B hB h
    refine OwnZ.lower ?_ hB
    have e1 : (ints (memL f)).length = (memL f).length := by simp [ints]
    unfold OwnZ
    rw [e1]
    exact h
  have hO := Aside0.mk hO
  have hu := Tryz.underlying160
  have HS := Aside0.mk (SvAt.new w (loB f) (hiB f))
  generalize loB f = a at *
  generalize hiB f = b at *
  go_enter Tryz.func158, Tryz.ntmps158
  go_wp2_with (first
    | (go_at_call 175; refine (HE.out _).mono ?_; rintro e w1 ⟨rfl, hbx, hb⟩; have HB1 := Aside0.mk (HS.out.bel.trans (hb.mono HS.out.bel.size)); have HX := Aside0.mk hbx; clear hbx hb)
    | (go_at_call 174; refine (HC.out _ HB1.out (w.heap.size + 1) (by omega) (by have h := HX.out; simpa using h)).mono ?_; rintro e w2 ⟨v, rfl, hrow, _, hb⟩))
  go_ret
  exact ⟨v, rfl, hO.out _ _ _ HB1.out.size hrow, hb⟩
end Go.Proofs.YtafmapadkpjliaaGreatDoor.K

/- Walks: the squares on which something is so; Find, Pieces. -/
namespace Go.Proofs.YtafmapadkpjliaaGreatDoor.K
open Go.RowKit Go.Lib Go.Proofs.YtafmapadkpjliaaGreatDoorW.PrintWords Go.Proofs.YtafmapadkpjliaaGreatDoor.Sp
set_option linter.unusedVariables false
set_option linter.unusedSimpArgs false
attribute [local go_sem] cel_get
/-- The result's box, the set's box. -/
structure StAt (w0 W : World) (a b : Nat) : Prop where
  r0 : W.cell? ⟨w0.heap.size, 0, none⟩ = some (.int .u64 0)
  r1 : W.cell? ⟨w0.heap.size, 1, none⟩ = some (.int .u64 0)
  fr : ∀ k, W.frozen? ⟨w0.heap.size, k, none⟩ = false
  e0 : W.cell? ⟨w0.heap.size + 1, 0, none⟩ = some (.int .u64 (a : Int))
  e1 : W.cell? ⟨w0.heap.size + 1, 1, none⟩ = some (.int .u64 (b : Int))
  fz : ∀ k, W.frozen? ⟨w0.heap.size + 1, k, none⟩ = false
  bel : Below w0.heap.size w0 W
theorem StAt.lt {w0 W : World} {a b : Nat} (h : StAt w0 W a b) : w0.heap.size + 1 < W.heap.size := World.block_lt_of_cell? W ⟨w0.heap.size + 1, 0, none⟩ h.e0
theorem StAt.below {w0 W W' : World} {a b : Nat} (h : StAt w0 W a b) (hb : Below W.heap.size W W') : StAt w0 W' a b := by
  have h2 := h.lt
  have h1 : w0.heap.size < W.heap.size := by omega
  exact ⟨(hb.cell (p := ⟨w0.heap.size, 0, none⟩) h1).trans h.r0, (hb.cell (p := ⟨w0.heap.size, 1, none⟩) h1).trans h.r1, fun k => (hb.frozen (p := ⟨w0.heap.size, k, none⟩) h1).trans (h.fr k),
    (hb.cell (p := ⟨w0.heap.size + 1, 0, none⟩) h2).trans h.e0, (hb.cell (p := ⟨w0.heap.size + 1, 1, none⟩) h2).trans h.e1, fun k => (hb.frozen (p := ⟨w0.heap.size + 1, k, none⟩) h2).trans (h.fz k), h.bel.trans (hb.mono h.bel.size)⟩
theorem StAt.new (w : World) : StAt w ((w.alloc (.cells #[.int .u64 0, .int .u64 0] 160)).alloc (.cells #[.int .u64 0, .int .u64 0] 160)) 0 0 :=
  ⟨by simp [World.cell?_alloc_at, World.cell?_alloc_past], by simp [World.cell?_alloc_at, World.cell?_alloc_past], fun k => ((below_alloc (Below.refl (w.alloc (.cells #[.int .u64 0, .int .u64 0] 160)).heap.size _) _).frozen (p := ⟨w.heap.size, k, none⟩) (by simp)).trans (World.frozen?_alloc_at _ _ _ k rfl), by simp [World.cell?_alloc_at], by simp [World.cell?_alloc_at], fun k => World.frozen?_alloc_at _ _ _ k (by simp), below_alloc (below_alloc (Below.refl _ _) _) _⟩
theorem StAt.put {w0 W : World} {a b : Nat} (h : StAt w0 W a b) (c d : Nat) : StAt w0 (putB W (w0.heap.size + 1) c d) c d := by
  have h0 := h.r0
  have h1 := h.r1
  have h2 := h.fr
  have h3 := h.e0
  have h4 := h.e1
  have h5 := h.fz
  exact ⟨by simp [go_sem, h0], by simp [go_sem, h1], fun k => by simp [go_sem, h2], by simp [go_sem, h3, h4], by simp [go_sem, h3, h4], fun k => by simp [go_sem, h5], putB_below h.bel _ _ _ (by omega)⟩
/-- The first i squares of a set. -/
abbrev uptoF (p : Nat → Bool) (i : Nat) : Nat → Bool := fun k => decide (k < i) && p k
theorem upto_zero (p : Nat → Bool) : loB (uptoF p 0) = 0 ∧ hiB (uptoF p 0) = 0 := ⟨bits_zero.2 (by simp), bits_zero.2 (by simp)⟩
theorem upto_all (p : Nat → Bool) : loB (uptoF p 90) = loB p ∧ hiB (uptoF p 90) = hiB p :=
  ⟨bitsTo_congr fun i hi => by simp [show i < 90 by omega], bitsTo_congr fun i hi => by simp [show 45 + i < 90 by omega]⟩
theorem upto_put (p : Nat → Bool) (i : Nat) (h : p i = true) : putF (uptoF p i) i = uptoF p (i + 1) := by
  funext k
  simp only [putF, uptoF]
  rcases Nat.lt_trichotomy k i with h1 | h1 | h1
  · simp [h1, show k < i + 1 by omega, show ¬ k = i by omega]
  · subst h1; simp [h]
  · simp [show ¬ k < i by omega, show ¬ k < i + 1 by omega, show ¬ k = i by omega]
theorem upto_skip (p : Nat → Bool) (i : Nat) (h : p i = false) : uptoF p i = uptoF p (i + 1) := by
  funext k
  simp only [uptoF]
  rcases Nat.lt_trichotomy k i with h1 | h1 | h1
  · simp [h1, show k < i + 1 by omega]
  · subst h1; simp [h]
  · simp [show ¬ k < i by omega, show ¬ k < i + 1 by omega]
set_option maxRecDepth 100000 in
set_option maxHeartbeats 2000000 in
/-- The squares on which something is so: the closure is asked of each square of a board. -/
theorem set_c (s : ByteArray) (hs : isBoard s = true) (p : Nat → Bool) (g : Nat) (lb : Array Value) (eg : ∀ args w, (callFunc g args).run Tryz.prog w = .ok (.enter g args) w) (w : World)
    (hg : ∀ i, i < 90 → ∀ W, Below w.heap.size w W → Calls Tryz.prog g (#[.int .u8 (cel s i : Int)] ++ lb) W fun e W' => e = .returned (.bool (p i)) ∧ Below W.heap.size W W') :
    Calls Tryz.prog 156 #[.string s, .func (.func g) #[] lb] w fun e w' => e = .returned (setF p) ∧ Below w.heap.size w w' := by
  have hsz := board_size hs
  have HI := Aside0.mk (fun W => is_c s W)
  rw [hs] at HI
  have HG := Aside0.mk hg
  have hu := Tryz.underlying160
  have HS := Aside0.mk (StAt.new w)
  clear hs hg
  go_enter Tryz.func156, Tryz.ntmps156
  go_wp2_with (go_at_call 79; refine (HI.out _).mono ?_; rintro e w1 ⟨rfl, hb⟩; have HS1 := Aside0.mk (HS.out.below hb); clear hb)
  go_loopg [9] 90 (fun gg s9 wr => ∃ i : Nat, s9 = .int .i64 i ∧ i + gg = 90 ∧ Aside0 (StAt w wr (loB (uptoF p i)) (hiB (uptoF p i))))
  case atStart => exact ⟨0, rfl, by omega, ⟨by rw [(upto_zero p).1, (upto_zero p).2]; exact HS1.out⟩⟩
  case round =>
    obtain ⟨i, rfl, hi, HR⟩ := hrel
    clear HS HS1
    cases gk with
    | zero =>
      obtain rfl : i = 90 := by omega
      rw [(upto_all p).1, (upto_all p).2] at HR
      obtain ⟨r0, r1, fr, e0, e1, fz, _⟩ := HR.out
      have hne : w.heap.size + 1 ≠ w.heap.size := by omega
      go_wp2_with fail
      refine bodyPost_ret (by simp [results, Tryz.results156, go_sem, r0, r1]; try rfl) rfl ?_
      refine ⟨rfl, ?_⟩
      (repeat' (first | (with_reducible exact Below.refl _ _) | (with_reducible refine pw_below_drewN ?_ _) | (with_reducible refine below_alloc ?_ _) | (with_reducible refine Below.drew ?_) | (with_reducible refine Below.setCell ?_ ?_ _) | (simp; done))) <;> first | exact HR.out.bel | (simp; done) | (simp; omega)
    | succ gk =>
      have hi90 : i < 90 := by omega
      have i1 : (i : Int) < 90 := by omega
      have i2 : (i : Int) < (s.size : Int) := by omega
      have i3 : (0 : Int) ≤ (i : Int) := by omega
      have HC := Aside0.mk (HG.out i hi90)
      have HWi := Aside0.mk (fun W => with_c (uptoF p i) i hi90 W)
      have HI1 := Aside0.mk (show i + 1 + gk = 90 by omega)
      clear hi
      cases hp : p i
      case false =>
        rw [hp] at HC
        rw [upto_skip p i hp] at HR
        go_wp2_with (go_at_fn g; refine (HC.out _ HR.out.bel).mono ?_; rintro e w2 ⟨rfl, hb⟩; have HR2 := Aside0.mk (HR.out.below hb); clear hb)
        go_roundg gk
        case measure => omega
        case rel => exact ⟨i + 1, rfl, HI1.out, HR2⟩
      case true =>
        rw [hp] at HC
        rw [upto_put p i hp] at HWi
        have HWi : Aside0 (∀ W, Calls Tryz.prog 173 #[setV (loB (uptoF p i)) (hiB (uptoF p i)), .int .i64 (i : Int)] W fun e w' => e = .returned (setV (loB (uptoF p (i + 1))) (hiB (uptoF p (i + 1)))) ∧ Below W.heap.size W w') := HWi
        generalize loB (uptoF p i) = a at *
        generalize hiB (uptoF p i) = b at *
        go_upto_region 7 with (go_at_fn g; refine (HC.out _ HR.out.bel).mono ?_; rintro e w2 ⟨rfl, hb⟩; have HR2 := Aside0.mk (HR.out.below hb); clear hb HR)
        obtain ⟨r0, r1, fr, e0, e1, fz, _⟩ := HR2.out
        go_wp2_with (go_at_call 173; refine (HWi.out _).mono ?_; rintro e w3 ⟨rfl, hb⟩; have HR3 := Aside0.mk (HR2.out.below hb); clear hb HR2 r0 r1 fr e0 e1 fz; obtain ⟨r0, r1, fr, e0, e1, fz, _⟩ := HR3.out)
        go_roundg gk
        case measure => omega
        case rel => exact ⟨i + 1, rfl, HI1.out, ⟨HR3.out.put _ _⟩⟩
/-- .. and of no board, nothing. -/
theorem set_no (s : ByteArray) (hs : isBoard s = false) (fv : Value) (w : World) :
    Calls Tryz.prog 156 #[.string s, fv] w fun e w' => e = .returned (setF fun _ => false) ∧ Below w.heap.size w w' := by
  have HI := Aside0.mk (fun W => is_c s W)
  rw [hs] at HI
  have hu := Tryz.underlying160
  have HS := Aside0.mk (StAt.new w)
  have HE := Aside0.mk (show setV 0 0 = setF (fun _ => false) by
    have h1 : loB (fun _ => false) = 0 := bits_zero.2 (by simp)
    have h2 : hiB (fun _ => false) = 0 := bits_zero.2 (by simp)
    show setV 0 0 = setV (loB fun _ => false) (hiB fun _ => false)
    rw [h1, h2])
  clear hs
  go_enter Tryz.func156, Tryz.ntmps156
  go_wp2_with (go_at_call 79; refine (HI.out _).mono ?_; rintro e w1 ⟨rfl, hb⟩; have HS1 := Aside0.mk (HS.out.below hb); clear hb; obtain ⟨r0, r1, fr, e0, e1, fz, _⟩ := HS1.out)
  have hne : w.heap.size + 1 ≠ w.heap.size := by omega
  refine bodyPost_ret (by simp [results, Tryz.results156, go_sem, r0, r1]; try rfl) rfl ?_
  refine ⟨by rw [← HE.out]; rfl, ?_⟩
  (repeat' (first | (with_reducible exact Below.refl _ _) | (with_reducible refine pw_below_drewN ?_ _) | (with_reducible refine below_alloc ?_ _) | (with_reducible refine Below.drew ?_) | (with_reducible refine Below.setCell ?_ ?_ _) | (simp; done))) <;> first | exact HS1.out.bel | (simp; done) | (simp; omega)
/-- The squares of a piece; those of a side. -/
def findS (s : ByteArray) (c : Nat) : List Nat := if isBoard s = true then (List.range 90).filter fun i => decide (cel s i = c) else []
def piecesS (s : ByteArray) (a : Int) : List Nat := if isBoard s = true then (List.range 90).filter fun i => decide (0 ≤ a) && decide (sideN (cel s i) = a) else []
end Go.Proofs.YtafmapadkpjliaaGreatDoor.K

/- Walks: Find, Pieces. -/
namespace Go.Proofs.YtafmapadkpjliaaGreatDoor.K
open Go.RowKit Go.Lib Go.Proofs.YtafmapadkpjliaaGreatDoorW.PrintWords Go.Proofs.YtafmapadkpjliaaGreatDoor.Sp
set_option linter.unusedVariables false
set_option linter.unusedSimpArgs false
theorem find1_c (x c : Nat) (A : Addr) (w : World) (h : w.cell? A = some (.int .u8 (c : Int))) :
    Calls Tryz.prog 157 #[.int .u8 (x : Int), .pointer (some A)] w fun e w' => e = .returned (.bool (decide (x = c))) ∧ Below w.heap.size w w' := by
  have hd : ((x : Int) == (c : Int)) = decide (x = c) := by rw [Bool.eq_iff_iff]; simp; omega
  go_enter Tryz.func157, Tryz.ntmps157
  go_wp2_with fail
  go_ret
  refine ⟨ret_bool ?_, by (repeat' (first | (with_reducible exact Below.refl _ _) | (with_reducible refine pw_below_drewN ?_ _) | (with_reducible refine below_alloc ?_ _) | (with_reducible refine Below.drew ?_) | (with_reducible refine Below.setCell ?_ ?_ _) | (simp; done))) <;> first | exact Below.refl _ _ | (simp; done)⟩
  first | rfl | (rw [Bool.eq_iff_iff]; simp; try omega)
set_option maxHeartbeats 1000000 in
theorem pieces1_c (x : Nat) (hx : x < 256) (a : Int) (A : Addr) (w : World) (h : w.cell? A = some (.int .i64 a)) :
    Calls Tryz.prog 160 #[.int .u8 (x : Int), .pointer (some A)] w fun e w' => e = .returned (.bool (decide (0 ≤ a) && decide (sideN x = a))) ∧ Below w.heap.size w w' := by
  have HS := Aside0.mk (fun W => side_c x hx W)
  generalize sideN x = y at *
  clear hx
  by_cases ha : 0 ≤ a
  · have hq : decide (0 ≤ a) = true := decide_eq_true ha
    go_enter Tryz.func160, Tryz.ntmps160
    go_wp2_with fail
    go_quiet (first | (go_at_call 105; exact Calls.quiet_of_same (HS.out _)))
    go_wp2_with fail
    go_ret
    refine ⟨ret_bool ?_, pw_below_drewN (Below.refl _ _) _⟩
    rw [Bool.eq_iff_iff]; simp_all <;> try omega
  · have hq : decide (0 ≤ a) = false := decide_eq_false ha
    clear HS
    go_enter Tryz.func160, Tryz.ntmps160
    go_wp2_with fail
    go_quiet (first | fail)
    go_wp2_with fail
    go_ret
    refine ⟨ret_bool ?_, pw_below_drewN (Below.refl _ _) _⟩
    rw [Bool.eq_iff_iff]; simp_all <;> try omega
set_option maxHeartbeats 1000000 in
theorem find_c (s : ByteArray) (c : Nat) (w : World) (hT : TabW w) : Calls Tryz.prog 132 #[.string s, .int .u8 (c : Int)] w fun e w' => ∃ v, e = .returned v ∧ OwnZ w' w.heap.size v (ints (findS s c)) ∧ Below w.heap.size w w' := by
  have HT := Aside0.mk (fun (W : World) (hb : Below w.heap.size w W) => hT.below hb)
  have HB0 := Aside0.mk (below_alloc (Below.refl w.heap.size w) (.cells #[.int .u8 (c : Int)] 5))
  cases hs : isBoard s
  case true =>
    rw [show findS s c = memL (fun i => decide (cel s i = c)) by unfold findS; rw [if_pos hs]; rfl]
    have HF := Aside0.mk (fun (W : World) (hc : W.cell? ⟨w.heap.size, 0, none⟩ = some (.int .u8 (c : Int))) => set_c s hs (fun i => decide (cel s i = c)) 157 #[.pointer (some ⟨w.heap.size, 0, none⟩)] (enters_of Tryz.func157 (by kernel_rfl) rfl) W
      (fun i hi W' hb => find1_c (cel s i) c _ W' ((hb.cell (World.block_lt_of_cell? W _ hc)).trans hc)))
    have HL := Aside0.mk (fun (W : World) (hT : TabW W) => list_c (fun i => decide (cel s i = c)) W hT)
    have hc : (w.alloc (.cells #[.int .u8 (c : Int)] 5)).cell? ⟨w.heap.size, 0, none⟩ = some (.int .u8 (c : Int)) := by simp [World.cell?_alloc_at]
    have HC := Aside0.mk hc
    clear hT hs hc
    generalize (fun i => decide (cel s i = c)) = p at *
    go_enter Tryz.func132, Tryz.ntmps132
    go_wp2_with (first
      | (go_at_call 156; refine (HF.out _ HC.out).mono ?_; rintro e w1 ⟨rfl, hb⟩; have HB1 := Aside0.mk (HB0.out.trans (hb.mono HB0.out.size)); clear hb)
      | (go_at_call 158; refine (HL.out _ (HT.out _ HB1.out)).mono ?_; rintro e w2 ⟨v, rfl, hv, hb⟩; have HB2 := Aside0.mk (HB1.out.trans (hb.mono HB1.out.size)); have HV := Aside0.mk (hv.lower HB1.out.size); clear hb hv))
    go_ret
    exact ⟨v, rfl, HV.out, HB2.out⟩
  case false =>
    rw [show findS s c = memL (fun _ => false) by unfold findS; rw [if_neg (by rw [hs]; decide)]; simp [memL]]
    have HF := Aside0.mk (fun (fv : Value) (W : World) => set_no s hs fv W)
    have HL := Aside0.mk (fun (W : World) (hT : TabW W) => list_c (fun _ => false) W hT)
    clear hT hs
    generalize (fun _ : Nat => false) = p at *
    go_enter Tryz.func132, Tryz.ntmps132
    go_wp2_with (first
      | (go_at_call 156; refine (HF.out _ _).mono ?_; rintro e w1 ⟨rfl, hb⟩; have HB1 := Aside0.mk (HB0.out.trans (hb.mono HB0.out.size)); clear hb)
      | (go_at_call 158; refine (HL.out _ (HT.out _ HB1.out)).mono ?_; rintro e w2 ⟨v, rfl, hv, hb⟩; have HB2 := Aside0.mk (HB1.out.trans (hb.mono HB1.out.size)); have HV := Aside0.mk (hv.lower HB1.out.size); clear hb hv))
    go_ret
    exact ⟨v, rfl, HV.out, HB2.out⟩
set_option maxHeartbeats 1000000 in
theorem pieces_c (s : ByteArray) (c : Int) (w : World) (hT : TabW w) : Calls Tryz.prog 137 #[.string s, .int .i64 c] w fun e w' => ∃ v, e = .returned v ∧ OwnZ w' w.heap.size v (ints (piecesS s c)) ∧ Below w.heap.size w w' := by
  have HT := Aside0.mk (fun (W : World) (hb : Below w.heap.size w W) => hT.below hb)
  have HB0 := Aside0.mk (below_alloc (Below.refl w.heap.size w) (.cells #[.int .i64 c] 3))
  cases hs : isBoard s
  case true =>
    rw [show piecesS s c = memL (fun i => decide (0 ≤ c) && decide (sideN (cel s i) = c)) by unfold piecesS; rw [if_pos hs]; rfl]
    have HF := Aside0.mk (fun (W : World) (hc : W.cell? ⟨w.heap.size, 0, none⟩ = some (.int .i64 c)) => set_c s hs (fun i => decide (0 ≤ c) && decide (sideN (cel s i) = c)) 160 #[.pointer (some ⟨w.heap.size, 0, none⟩)] (enters_of Tryz.func160 (by kernel_rfl) rfl) W
      (fun i hi W' hb => pieces1_c (cel s i) (cel_lt s i) c _ W' ((hb.cell (World.block_lt_of_cell? W _ hc)).trans hc)))
    have HL := Aside0.mk (fun (W : World) (hT : TabW W) => list_c (fun i => decide (0 ≤ c) && decide (sideN (cel s i) = c)) W hT)
    have hc : (w.alloc (.cells #[.int .i64 c] 3)).cell? ⟨w.heap.size, 0, none⟩ = some (.int .i64 c) := by simp [World.cell?_alloc_at]
    have HC := Aside0.mk hc
    clear hT hs hc
    generalize (fun i => decide (0 ≤ c) && decide (sideN (cel s i) = c)) = p at *
    go_enter Tryz.func137, Tryz.ntmps137
    go_wp2_with (first
      | (go_at_call 156; refine (HF.out _ HC.out).mono ?_; rintro e w1 ⟨rfl, hb⟩; have HB1 := Aside0.mk (HB0.out.trans (hb.mono HB0.out.size)); clear hb)
      | (go_at_call 158; refine (HL.out _ (HT.out _ HB1.out)).mono ?_; rintro e w2 ⟨v, rfl, hv, hb⟩; have HB2 := Aside0.mk (HB1.out.trans (hb.mono HB1.out.size)); have HV := Aside0.mk (hv.lower HB1.out.size); clear hb hv))
    go_ret
    exact ⟨v, rfl, HV.out, HB2.out⟩
  case false =>
    rw [show piecesS s c = memL (fun _ => false) by unfold piecesS; rw [if_neg (by rw [hs]; decide)]; simp [memL]]
    have HF := Aside0.mk (fun (fv : Value) (W : World) => set_no s hs fv W)
    have HL := Aside0.mk (fun (W : World) (hT : TabW W) => list_c (fun _ => false) W hT)
    clear hT hs
    generalize (fun _ : Nat => false) = p at *
    go_enter Tryz.func137, Tryz.ntmps137
    go_wp2_with (first
      | (go_at_call 156; refine (HF.out _ _).mono ?_; rintro e w1 ⟨rfl, hb⟩; have HB1 := Aside0.mk (HB0.out.trans (hb.mono HB0.out.size)); clear hb)
      | (go_at_call 158; refine (HL.out _ (HT.out _ HB1.out)).mono ?_; rintro e w2 ⟨v, rfl, hv, hb⟩; have HB2 := Aside0.mk (HB1.out.trans (hb.mono HB1.out.size)); have HV := Aside0.mk (hv.lower HB1.out.size); clear hb hv))
    go_ret
    exact ⟨v, rfl, HV.out, HB2.out⟩
end Go.Proofs.YtafmapadkpjliaaGreatDoor.K

/- Walks: Put. -/
namespace Go.Proofs.YtafmapadkpjliaaGreatDoor.K
open Go.RowKit Go.Lib Go.Proofs.YtafmapadkpjliaaGreatDoorW.PrintWords Go.Proofs.YtafmapadkpjliaaGreatDoor.Sp
set_option linter.unusedVariables false
set_option linter.unusedSimpArgs false
/-- A text with a byte on a square. -/
def putT (s : ByteArray) (n c : Nat) : ByteArray := strOfNums ((bytesOf s).set n (c : Int))
def putS (s : ByteArray) (n : Int) (c : Nat) : ByteArray := if isBoard s = true ∧ 0 ≤ n ∧ n < 90 ∧ cellB c = true then putT s n.toNat c else s
set_option maxRecDepth 100000 in
set_option maxHeartbeats 2000000 in
theorem put_yes (s : ByteArray) (n c : Nat) (hs : isBoard s = true) (hn : n < 90) (hc : cellB c = true) (hc2 : c < 256) (w : World) : Calls Tryz.prog 135 #[.string s, .int .i64 (n : Int), .int .u8 (c : Int)] w fun e w' => e = .returned (.string (putT s n c)) ∧ Below w.heap.size w w' := by
  have hz := board_size hs
  have HI := Aside0.mk (fun W => is_c s W)
  rw [hs] at HI
  have HQ := Aside0.mk (fun W => isSquare_c (n : Int) W)
  rw [show decide (0 ≤ (n : Int) ∧ (n : Int) < 90) = true by simp; omega] at HQ
  have HC := Aside0.mk (fun W => isCell_c c hc2 W)
  rw [hc] at HC
  have kb := fun W => print_bytes (P := Tryz.prog) 9 93 5 Tryz.underlying9 Tryz.underlying93 Tryz.underlying5 s W
  have h0 : 0 ≤ (n : Int) := by omega
  have h1 : (n : Int) < (s.size : Int) := by omega
  have HLT := Aside0.mk (show n < s.size by omega)
  have HP := Aside0.mk (show putT s n c = strOfNums ((bytesOf s).set n (c : Int)) from rfl)
  generalize putT s n c = t at *
  clear hs hn hc hc2 hz
  go_enter Tryz.func135, Tryz.ntmps135
  go_wp2_with (first | (go_at_call 108; refine (HQ.out _).mono ?_; rintro e w' ⟨rfl, rfl⟩) | (go_at_call 115; refine (HC.out _).mono ?_; rintro e w' ⟨rfl, rfl⟩) | (go_at_call 79; refine (HI.out _).mono ?_; rintro e w1 ⟨rfl, hb1⟩; have HB1 := Aside0.mk hb1; clear hb1; have hN := Aside0.mk (bytes_at_new w1 5 s); obtain ⟨hc0, hf0⟩ := hN.out n (by rw [bytesOf_length]; exact HLT.out); have kc := bytes_string (hN.out.set n (c : Int)) 93 Tryz.underlying93 (cap := grownCap w1 s.size 0 5); rw [List.length_set, bytesOf_length, ← HP.out] at kc))
  go_ret
  have hb' := HB1.out
  exact ⟨rfl, (bytes_below hb' (below_size hb') 5 s).setCell (p := ⟨w1.heap.size, n, none⟩) (below_size hb') _⟩
set_option maxRecDepth 100000 in
set_option maxHeartbeats 2000000 in
theorem put_not (s : ByteArray) (n : Int) (c : Nat) (hc2 : c < 256) (h : ¬ (isBoard s = true ∧ 0 ≤ n ∧ n < 90 ∧ cellB c = true)) (w : World) : Calls Tryz.prog 135 #[.string s, .int .i64 n, .int .u8 (c : Int)] w fun e w' => e = .returned (.string s) ∧ Below w.heap.size w w' := by
  have HI := Aside0.mk (fun W => is_c s W)
  have HQ := Aside0.mk (fun W => isSquare_c n W)
  have HC := Aside0.mk (fun W => isCell_c c hc2 W)
  have HB := Aside0.mk (Below.refl w.heap.size w)
  clear hc2
  cases hq : decide (0 ≤ n ∧ n < 90) with
  | false =>
    rw [hq] at HQ
    clear h hq HC HI
    go_enter Tryz.func135, Tryz.ntmps135
    go_wp2_with (first | (go_at_call 108; refine (HQ.out _).mono ?_; rintro e w' ⟨rfl, rfl⟩))
    go_ret
    exact ⟨rfl, HB.out⟩
  | true =>
    have hq' := of_decide_eq_true hq
    rw [hq] at HQ
    clear hq
    cases hc : cellB c with
    | false =>
      rw [hc] at HC
      clear h hc HI hq'
      go_enter Tryz.func135, Tryz.ntmps135
      go_wp2_with (first | (go_at_call 108; refine (HQ.out _).mono ?_; rintro e w' ⟨rfl, rfl⟩) | (go_at_call 115; refine (HC.out _).mono ?_; rintro e w' ⟨rfl, rfl⟩))
      go_ret
      exact ⟨rfl, HB.out⟩
    | true =>
      have hs : isBoard s = false := by
        cases hs : isBoard s
        · rfl
        · exact absurd ⟨hs, hq'.1, hq'.2, hc⟩ h
      rw [hc] at HC
      rw [hs] at HI
      clear h hc hs hq'
      go_enter Tryz.func135, Tryz.ntmps135
      go_wp2_with (first | (go_at_call 108; refine (HQ.out _).mono ?_; rintro e w' ⟨rfl, rfl⟩) | (go_at_call 115; refine (HC.out _).mono ?_; rintro e w' ⟨rfl, rfl⟩) | (go_at_call 79; refine (HI.out _).mono ?_; rintro e w1 ⟨rfl, hb1⟩; have HB1 := Aside0.mk hb1; clear hb1))
      go_ret
      exact ⟨rfl, HB1.out⟩
theorem put_c (s : ByteArray) (n : Int) (c : Nat) (hc : c < 256) (w : World) : Calls Tryz.prog 135 #[.string s, .int .i64 n, .int .u8 (c : Int)] w fun e w' => e = .returned (.string (putS s n c)) ∧ Below w.heap.size w w' := by
  by_cases h : isBoard s = true ∧ 0 ≤ n ∧ n < 90 ∧ cellB c = true
  · rw [show putS s n c = putT s n.toNat c from if_pos h]
    have e : n = ((n.toNat : Nat) : Int) := by omega
    have := put_yes s n.toNat c h.1 (by omega) h.2.2.2 hc w
    rw [← e] at this
    exact this
  · rw [show putS s n c = s from if_neg h]
    exact put_not s n c hc h w
end Go.Proofs.YtafmapadkpjliaaGreatDoor.K

/- Walks: reach.Between, reach.Can. -/
namespace Go.Proofs.YtafmapadkpjliaaGreatDoor.K
open Go.RowKit Go.Lib Go.Proofs.YtafmapadkpjliaaGreatDoorW.PrintWords Go.Proofs.YtafmapadkpjliaaGreatDoor.Sp
set_option linter.unusedVariables false
set_option linter.unusedSimpArgs false
attribute [local go_sem] cel_get   -- for this text's walks alone
set_option maxRecDepth 100000 in
set_option maxHeartbeats 2000000 in
theorem betw_yes (s : ByteArray) (hbd : isBoard s = true) (a b : Nat) (ha : a < 90) (hb : b < 90) (w : World) : Calls Tryz.prog 99 #[.string s, .int .i64 (a : Int), .int .i64 (b : Int)] w fun e w' => e = .returned (.int .i64 (betwN (cel s) a b)) ∧ Below w.heap.size w w' := by
  have hs := board_size hbd
  have HI := Aside0.mk (fun W => is_c s W)
  rw [hbd] at HI
  have HQA := Aside0.mk (fun W => isq_c (a : Int) W)
  rw [show decide (0 ≤ (a : Int) ∧ (a : Int) < 90) = true by simp; omega] at HQA
  have HQB := Aside0.mk (fun W => isq_c (b : Int) W)
  rw [show decide (0 ≤ (b : Int) ∧ (b : Int) < 90) = true by simp; omega] at HQB
  have HRA := Aside0.mk (fun W => rank_c a ha W)
  have HRB := Aside0.mk (fun W => rank_c b hb W)
  have HFA := Aside0.mk (fun W => file_c a ha W)
  have HFB := Aside0.mk (fun W => file_c b hb W)
  clear hbd
  have a0 : 0 ≤ (a : Int) := by omega
  have a1 : (a : Int) < 90 := by omega
  have b0 : 0 ≤ (b : Int) := by omega
  have b1 : (b : Int) < 90 := by omega
  have q0 : ((a : Int) == (b : Int)) = (a == b) := by rw [Bool.eq_iff_iff, beq_iff_eq, beq_iff_eq]; omega
  have q1 : (((a / 9 : Nat) : Int) == ((b / 9 : Nat) : Int)) = (a / 9 == b / 9) := by rw [Bool.eq_iff_iff, beq_iff_eq, beq_iff_eq]; omega
  have q2 : (((a % 9 : Nat) : Int) == ((b % 9 : Nat) : Int)) = (a % 9 == b % 9) := by rw [Bool.eq_iff_iff, beq_iff_eq, beq_iff_eq]; omega
  by_cases h : a = b
  · have e0 : (a == b) = true := by simp [h]
    rw [show betwN (cel s) a b = -1 by unfold betwN; rw [if_pos h]]
    rw [e0] at q0
    clear h q1 q2 e0
    generalize a / 9 = ra at *
    generalize b / 9 = rb at *
    generalize a % 9 = fa at *
    generalize b % 9 = fb at *
    go_enter Tryz.func99, Tryz.ntmps99
    go_wp2_with (first
      | (go_at_call 79; refine (HI.out _).mono ?_; rintro e w1 ⟨rfl, hb1⟩; have HB1 := Aside0.mk hb1; clear hb1)
      | (go_at_call 133; (with_reducible refine (HQA.out _).mono ?_); rintro e w2 ⟨rfl, rfl⟩)
      | (go_at_call 133; (with_reducible refine (HQB.out _).mono ?_); rintro e w2 ⟨rfl, rfl⟩)
      | (go_at_call 134; (with_reducible refine (HRA.out _).mono ?_); rintro e w2 ⟨rfl, rfl⟩)
      | (go_at_call 134; (with_reducible refine (HRB.out _).mono ?_); rintro e w2 ⟨rfl, rfl⟩)
      | (go_at_call 98; (with_reducible refine (HFA.out _).mono ?_); rintro e w2 ⟨rfl, rfl⟩)
      | (go_at_call 98; (with_reducible refine (HFB.out _).mono ?_); rintro e w2 ⟨rfl, rfl⟩))
    go_ret
    exact ⟨rfl, HB1.out⟩
  have e0 : (a == b) = false := by simp [h]
  rw [e0] at q0
  by_cases hr : a / 9 = b / 9
  case neg =>
    have e1 : (a / 9 == b / 9) = false := by simp [hr]
    rw [e1] at q1
    by_cases hc : a % 9 = b % 9
    case neg =>
      rw [show betwN (cel s) a b = -1 by unfold betwN; rw [if_neg h, if_neg (by omega)]]
      have e2 : (a % 9 == b % 9) = false := by simp [hc]
      rw [e2] at q2
      clear h hr hc e0 e1 e2
      generalize a / 9 = ra at *
      generalize b / 9 = rb at *
      generalize a % 9 = fa at *
      generalize b % 9 = fb at *
      go_enter Tryz.func99, Tryz.ntmps99
      go_wp2_with (first
        | (go_at_call 79; refine (HI.out _).mono ?_; rintro e w1 ⟨rfl, hb1⟩; have HB1 := Aside0.mk hb1; clear hb1)
        | (go_at_call 133; (with_reducible refine (HQA.out _).mono ?_); rintro e w2 ⟨rfl, rfl⟩)
        | (go_at_call 133; (with_reducible refine (HQB.out _).mono ?_); rintro e w2 ⟨rfl, rfl⟩)
        | (go_at_call 134; (with_reducible refine (HRA.out _).mono ?_); rintro e w2 ⟨rfl, rfl⟩)
        | (go_at_call 134; (with_reducible refine (HRB.out _).mono ?_); rintro e w2 ⟨rfl, rfl⟩)
        | (go_at_call 98; (with_reducible refine (HFA.out _).mono ?_); rintro e w2 ⟨rfl, rfl⟩)
        | (go_at_call 98; (with_reducible refine (HFB.out _).mono ?_); rintro e w2 ⟨rfl, rfl⟩))
      go_ret
      exact ⟨rfl, HB1.out⟩
    have e2 : (a % 9 == b % 9) = true := by simp [hc]
    rw [e2] at q2
    obtain ⟨m, hL, hM⟩ := betwL_col a b h hr hc
    rw [show betwN (cel s) a b = (cntN s (min a b) 9 m : Int) by unfold betwN cntN; rw [if_neg h, if_pos (by omega), hL]]
    have HX := Aside0.mk (show max (a : Int) (b : Int) = ((min a b : Nat) : Int) + 9 * m + 9 by omega)
    have HN := Aside0.mk (show min (a : Int) (b : Int) = ((min a b : Nat) : Int) by omega)
    have HLT := Aside0.mk (show min a b + 9 * m < 90 - 9 by omega)
    generalize min a b = mn at *
    have HS := Aside0.mk hs
    clear hL hM e0 e1 e2 h hr hc hs
    generalize a / 9 = ra at *
    generalize b / 9 = rb at *
    generalize a % 9 = fa at *
    generalize b % 9 = fb at *
    go_enter Tryz.func99, Tryz.ntmps99
    go_wp2_with (first
      | (go_at_call 79; refine (HI.out _).mono ?_; rintro e w1 ⟨rfl, hb1⟩; have HB1 := Aside0.mk hb1; clear hb1)
      | (go_at_call 133; (with_reducible refine (HQA.out _).mono ?_); rintro e w2 ⟨rfl, rfl⟩)
      | (go_at_call 133; (with_reducible refine (HQB.out _).mono ?_); rintro e w2 ⟨rfl, rfl⟩)
      | (go_at_call 134; (with_reducible refine (HRA.out _).mono ?_); rintro e w2 ⟨rfl, rfl⟩)
      | (go_at_call 134; (with_reducible refine (HRB.out _).mono ?_); rintro e w2 ⟨rfl, rfl⟩)
      | (go_at_call 98; (with_reducible refine (HFA.out _).mono ?_); rintro e w2 ⟨rfl, rfl⟩)
      | (go_at_call 98; (with_reducible refine (HFB.out _).mono ?_); rintro e w2 ⟨rfl, rfl⟩))
    go_loopg [8, 9] m (fun gg s8 s9 wr => ∃ j i c : Nat, s8 = .int .i64 c ∧ s9 = .int .i64 i ∧ j + gg = m ∧ Aside0 (Below w.heap.size w wr) ∧ Aside0 (i = mn + 9 * (j + 1) ∧ c = cntN s mn 9 j))
    case atStart => exact ⟨0, mn + 9, 0, rfl, by rw [HN.out]; rfl, by omega, HB1, ⟨by omega, rfl⟩⟩
    case round =>
      obtain ⟨j, i, c, rfl, rfl, hjg, HW, HI⟩ := hrel
      have HG := Aside0.mk hjg
      clear hjg
      by_cases hlt : j < m
      · have k1 : decide ((i : Int) < max (a : Int) (b : Int)) = true := decide_eq_true (by rw [HX.out, HI.out.1]; omega)
        have k2 : 0 ≤ (i : Int) := by omega
        have k3 : (i : Int) < (s.size : Int) := by rw [HS.out, HI.out.1]; have := HLT.out; omega
        have k4 : (i : Int) ≤ 90 := by rw [HI.out.1]; have := HLT.out; omega
        have k5 : (c : Int) ≤ 90 := by rw [HI.out.2]; have := cntN_le s mn 9 j; have := HLT.out; omega
        have hcs := cntN_succ s mn 9 j
        rw [← HI.out.1, ← HI.out.2] at hcs
        generalize hx : cel s i = x at hcs
        have HX2 := Aside0.mk hcs
        have q : ((x : Int) != 46) = (x != 46) := by rw [Bool.eq_iff_iff, bne_iff_ne, bne_iff_ne]; omega
        clear hcs
        cases h46 : (x != 46)
        all_goals
          rw [h46] at q
          have H46 := Aside0.mk h46
          clear h46
          go_wp2_with fail
          go_roundg (m - (j + 1))
          case measure => have := HG.out; omega
          case rel =>
            have h46 := H46.out
            have hcs := HX2.out
            first
            | (rw [if_pos (by simpa using h46)] at hcs; exact ⟨j + 1, i + 9, c, rfl, by go_num, by have := HG.out; omega, HW, ⟨by have := HI.out.1; omega, by omega⟩⟩)
            | (rw [if_neg (by simpa using h46)] at hcs; exact ⟨j + 1, i + 9, c + 1, by go_num, by go_num, by have := HG.out; omega, HW, ⟨by have := HI.out.1; omega, by omega⟩⟩)
      · have k1 : decide ((i : Int) < max (a : Int) (b : Int)) = false := decide_eq_false (by rw [HX.out, HI.out.1]; have := HG.out; omega)
        go_wp2_with fail
        go_ret
        exact ⟨ret_int (by rw [HI.out.2, show j = m by have := HG.out; omega]), HW.out⟩
  have e1 : (a / 9 == b / 9) = true := by simp [hr]
  rw [e1] at q1
  obtain ⟨m, hL, hM⟩ := betwL_row a b h hr
  rw [show betwN (cel s) a b = (cntN s (min a b) 1 m : Int) by unfold betwN cntN; rw [if_neg h, if_pos (by omega), hL]]
  have HX := Aside0.mk (show max (a : Int) (b : Int) = ((min a b : Nat) : Int) + 1 * m + 1 by omega)
  have HN := Aside0.mk (show min (a : Int) (b : Int) = ((min a b : Nat) : Int) by omega)
  have HLT := Aside0.mk (show min a b + 1 * m < 90 - 1 by omega)
  generalize min a b = mn at *
  have HS := Aside0.mk hs
  clear hL hM e0 e1 q2 h hr hs
  generalize a / 9 = ra at *
  generalize b / 9 = rb at *
  generalize a % 9 = fa at *
  generalize b % 9 = fb at *
  go_enter Tryz.func99, Tryz.ntmps99
  go_wp2_with (first
    | (go_at_call 79; refine (HI.out _).mono ?_; rintro e w1 ⟨rfl, hb1⟩; have HB1 := Aside0.mk hb1; clear hb1)
    | (go_at_call 133; (with_reducible refine (HQA.out _).mono ?_); rintro e w2 ⟨rfl, rfl⟩)
    | (go_at_call 133; (with_reducible refine (HQB.out _).mono ?_); rintro e w2 ⟨rfl, rfl⟩)
    | (go_at_call 134; (with_reducible refine (HRA.out _).mono ?_); rintro e w2 ⟨rfl, rfl⟩)
    | (go_at_call 134; (with_reducible refine (HRB.out _).mono ?_); rintro e w2 ⟨rfl, rfl⟩)
    | (go_at_call 98; (with_reducible refine (HFA.out _).mono ?_); rintro e w2 ⟨rfl, rfl⟩)
    | (go_at_call 98; (with_reducible refine (HFB.out _).mono ?_); rintro e w2 ⟨rfl, rfl⟩))
  go_loopg [8, 9] m (fun gg s8 s9 wr => ∃ j i c : Nat, s8 = .int .i64 c ∧ s9 = .int .i64 i ∧ j + gg = m ∧ Aside0 (Below w.heap.size w wr) ∧ Aside0 (i = mn + 1 * (j + 1) ∧ c = cntN s mn 1 j))
  case atStart => exact ⟨0, mn + 1, 0, rfl, by rw [HN.out]; rfl, by omega, HB1, ⟨by omega, rfl⟩⟩
  case round =>
    obtain ⟨j, i, c, rfl, rfl, hjg, HW, HI⟩ := hrel
    have HG := Aside0.mk hjg
    clear hjg
    by_cases hlt : j < m
    · have k1 : decide ((i : Int) < max (a : Int) (b : Int)) = true := decide_eq_true (by rw [HX.out, HI.out.1]; omega)
      have k2 : 0 ≤ (i : Int) := by omega
      have k3 : (i : Int) < (s.size : Int) := by rw [HS.out, HI.out.1]; have := HLT.out; omega
      have k4 : (i : Int) ≤ 90 := by rw [HI.out.1]; have := HLT.out; omega
      have k5 : (c : Int) ≤ 90 := by rw [HI.out.2]; have := cntN_le s mn 1 j; have := HLT.out; omega
      have hcs := cntN_succ s mn 1 j
      rw [← HI.out.1, ← HI.out.2] at hcs
      generalize hx : cel s i = x at hcs
      have HX2 := Aside0.mk hcs
      have q : ((x : Int) != 46) = (x != 46) := by rw [Bool.eq_iff_iff, bne_iff_ne, bne_iff_ne]; omega
      clear hcs
      cases h46 : (x != 46)
      all_goals
        rw [h46] at q
        have H46 := Aside0.mk h46
        clear h46
        go_wp2_with fail
        go_roundg (m - (j + 1))
        case measure => have := HG.out; omega
        case rel =>
          have h46 := H46.out
          have hcs := HX2.out
          first
          | (rw [if_pos (by simpa using h46)] at hcs; exact ⟨j + 1, i + 1, c, rfl, by go_num, by have := HG.out; omega, HW, ⟨by have := HI.out.1; omega, by omega⟩⟩)
          | (rw [if_neg (by simpa using h46)] at hcs; exact ⟨j + 1, i + 1, c + 1, by go_num, by go_num, by have := HG.out; omega, HW, ⟨by have := HI.out.1; omega, by omega⟩⟩)
    · have k1 : decide ((i : Int) < max (a : Int) (b : Int)) = false := decide_eq_false (by rw [HX.out, HI.out.1]; have := HG.out; omega)
      go_wp2_with fail
      go_ret
      exact ⟨ret_int (by rw [HI.out.2, show j = m by have := HG.out; omega]), HW.out⟩
end Go.Proofs.YtafmapadkpjliaaGreatDoor.K

/- Walks: reach.Between, reach.Can; references. -/
namespace Go.Proofs.YtafmapadkpjliaaGreatDoor.K
open Go.RowKit Go.Lib Go.Proofs.YtafmapadkpjliaaGreatDoorW.PrintWords Go.Proofs.YtafmapadkpjliaaGreatDoor.Sp
set_option linter.unusedVariables false
set_option linter.unusedSimpArgs false
def betwS (s : ByteArray) (a b : Int) : Int := if isBoard s = true ∧ (0 ≤ a ∧ a < 90) ∧ (0 ≤ b ∧ b < 90) then betwN (cel s) a.toNat b.toNat else -1
set_option maxRecDepth 100000 in
set_option maxHeartbeats 2000000 in
theorem betw_no (s : ByteArray) (a b : Int) (h : ¬ (isBoard s = true ∧ (0 ≤ a ∧ a < 90) ∧ (0 ≤ b ∧ b < 90))) (w : World) : Calls Tryz.prog 99 #[.string s, .int .i64 a, .int .i64 b] w fun e w' => e = .returned (.int .i64 (-1)) ∧ Below w.heap.size w w' := by
  have HI := Aside0.mk (fun W => is_c s W)
  have HQA := Aside0.mk (fun W => isq_c a W)
  have HQB := Aside0.mk (fun W => isq_c b W)
  cases hs : isBoard s with
  | false =>
    rw [hs] at HI
    clear h hs HQA HQB
    go_enter Tryz.func99, Tryz.ntmps99
    go_wp2_with (go_at_call 79; refine (HI.out _).mono ?_; rintro e w1 ⟨rfl, hb1⟩; have HB1 := Aside0.mk hb1; clear hb1)
    go_ret
    exact ⟨rfl, HB1.out⟩
  | true =>
    rw [hs] at HI
    cases ha : decide (0 ≤ a ∧ a < 90) with
    | false =>
      rw [ha] at HQA
      clear h hs HQB ha
      go_enter Tryz.func99, Tryz.ntmps99
      go_wp2_with (first | (go_at_call 79; refine (HI.out _).mono ?_; rintro e w1 ⟨rfl, hb1⟩; have HB1 := Aside0.mk hb1; clear hb1) | (go_at_call 133; (with_reducible refine (HQA.out _).mono ?_); rintro e w2 ⟨rfl, rfl⟩))
      go_ret
      exact ⟨rfl, HB1.out⟩
    | true =>
      have hb : decide (0 ≤ b ∧ b < 90) = false := decide_eq_false fun hb => h ⟨hs, of_decide_eq_true ha, hb⟩
      rw [ha] at HQA
      rw [hb] at HQB
      clear h hs ha hb
      go_enter Tryz.func99, Tryz.ntmps99
      go_wp2_with (first | (go_at_call 79; refine (HI.out _).mono ?_; rintro e w1 ⟨rfl, hb1⟩; have HB1 := Aside0.mk hb1; clear hb1) | (go_at_call 133; (with_reducible refine (HQA.out _).mono ?_); rintro e w2 ⟨rfl, rfl⟩; clear HQA) | (go_at_call 133; (with_reducible refine (HQB.out _).mono ?_); rintro e w2 ⟨rfl, rfl⟩))
      go_ret
      exact ⟨rfl, HB1.out⟩
theorem betw_c (s : ByteArray) (a b : Int) (w : World) : Calls Tryz.prog 99 #[.string s, .int .i64 a, .int .i64 b] w fun e w' => e = .returned (.int .i64 (betwS s a b)) ∧ Below w.heap.size w w' := by
  by_cases h : isBoard s = true ∧ (0 ≤ a ∧ a < 90) ∧ (0 ≤ b ∧ b < 90)
  · rw [show betwS s a b = betwN (cel s) a.toNat b.toNat from if_pos h]
    have e1 : a = ((a.toNat : Nat) : Int) := by omega
    have e2 : b = ((b.toNat : Nat) : Int) := by omega
    have := betw_yes s h.1 a.toNat b.toNat (by omega) (by omega) w
    rw [← e1, ← e2] at this
    exact this
  · rw [show betwS s a b = -1 from if_neg h]
    exact betw_no s a b h w
/-- Does the piece on a square reach another one? -/
def canS (s : ByteArray) (a b : Int) : Bool := (allS s a).any (fun n => (n : Int) == b)
theorem allS_len (s : ByteArray) (a : Int) : (allS s a).length ≤ 1000000 := by
  unfold allS
  split
  · unfold allN
    refine Nat.le_trans (List.length_filter_le _ _) ?_
    simp
  · simp
theorem can_c (s : ByteArray) (a b : Int) (w : World) : Calls Tryz.prog 139 #[.string s, .int .i64 a, .int .i64 b] w fun e w' => e = .returned (.bool (canS s a b)) ∧ Below w.heap.size w w' := by
  have HA := Aside0.mk (fun W => all_c s a W)
  have HC := Aside0.mk (fun (W : World) (B : Nat) (v : Value) (h : IntsAt W B v (allS s a)) => containsI_c W B v (allS s a) b h (allS_len s a))
  have HE := Aside0.mk (show canS s a b = (allS s a).any (fun n => (n : Int) == b) from rfl)
  generalize canS s a b = r at *
  rw [← HE.out] at HC
  generalize allS s a = l at *
  go_enter Tryz.func139, Tryz.ntmps139
  go_wp2_with (first
    | (go_at_call 112; refine (HA.out _).mono ?_; rintro e w1 ⟨v, rfl, hv, hb⟩; have HV := Aside0.mk hv; have HB := Aside0.mk hb; clear hv hb)
    | (go_at_call 111; refine (HC.out _ _ _ HV.out).mono ?_; rintro e w2 ⟨rfl, rfl⟩))
  go_ret
  exact ⟨rfl, HB.out⟩
end Go.Proofs.YtafmapadkpjliaaGreatDoor.K
