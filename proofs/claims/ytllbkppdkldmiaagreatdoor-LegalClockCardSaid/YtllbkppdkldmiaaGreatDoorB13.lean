/- Walks and plain laws that several statements lean on, joined: no statement of the seat is proved here. -/
import Derived.WalkKit
import Derived.Handy
import Derived.Deep.RegionHeld3
import Derived.Deep.Cut
import Derived.Test.YtllbkppdkldmiaaGreatDoorB6
import Derived.Test.YtllbkppdkldmiaaGreatDoorB12
import Derived.Test.YtllbkppdkldmiaaGreatDoorB4
import Derived.Test.YtllbkppdkldmiaaGreatDoorB5

/- Walks: pseudo.Moves. -/
namespace Go.Proofs.YtllbkppdkldmiaaGreatDoor.K
open Go.RowKit Go.Lib Go.Proofs.YtllbkppdkldmiaaGreatDoorW.PrintWords Go.Proofs.YtllbkppdkldmiaaGreatDoor.Sp
set_option linter.unusedVariables false
set_option linter.unusedSimpArgs false
theorem moves1_c (W : World) (x : Nat) (hx : x < 256) : Calls Tryz.prog 111 #[.int .u8 (x : Int)] W fun e w' => e = .returned (.bool ((fun _ => true) x)) ∧ w' = W := by
  go_enter Tryz.func111, Tryz.ntmps111
  go_wp2_with fail
  go_ret
  exact ⟨rfl, rfl⟩
set_option maxRecDepth 100000 in
set_option maxHeartbeats 1000000 in
theorem moves_c (p : Pos) (w : World) : Calls Tryz.prog 76 #[posV p] w fun e w' => ∃ v, e = .returned v ∧ OwnM w' w.heap.size v (gathP p (fun _ => true)) ∧ Below w.heap.size w w' := by
  have HG := Aside0.mk (fun W => gather_c p 111 (fun _ => true) moves1_c (fun _ _ => by rfl) W)
  have hu := Tryz.underlying33
  go_enter Tryz.func76, Tryz.ntmps76
  go_wp2_with fail
  refine (HG.out _).mono ?_
  rintro e w1 ⟨v, rfl, h1, h2⟩
  have HR : Aside0 (OwnM w1 w.heap.size v (gathP p (fun _ => true)) ∧ Below w.heap.size w w1) := ⟨h1.lower (by simp), (below_alloc (Below.refl w.heap.size w) _).trans (h2.mono (by simp))⟩
  clear h1 h2
  go_wp2_with fail
  go_ret
  exact ⟨v, rfl, HR.out.1, HR.out.2⟩
end Go.Proofs.YtllbkppdkldmiaaGreatDoor.K

/- A row of moves, read. -/
namespace Go.Proofs.YtllbkppdkldmiaaGreatDoor.K
open Go.RowKit Go.Lib Go.Proofs.YtllbkppdkldmiaaGreatDoorW.PrintWords Go.Proofs.YtllbkppdkldmiaaGreatDoor.Sp
set_option linter.unusedVariables false
set_option linter.unusedSimpArgs false
/-- Moves in a row that the call made, from block B on, as they are read. -/
structure MvAt (W : World) (B : Nat) (v : Value) (l : List Mv) : Prop where mk ::
  out : ∃ A cap, v = .slice A l.length cap ∧ (l = [] ∨ ∃ g, A = some ⟨g, 0, none⟩ ∧ B ≤ g ∧ g < W.heap.size ∧ ∀ i (h : i < l.length), W.cell? ⟨g, i * 2, none⟩ = some (.int .i64 (l[i].1 : Int)) ∧ W.cell? ⟨g, i * 2 + 1, none⟩ = some (.int .i64 (l[i].2 : Int)))
theorem MvAt.below {W W' : World} {B : Nat} {v : Value} {l : List Mv} (h : MvAt W B v l) (hb : Below W.heap.size W W') : MvAt W' B v l := by
  obtain ⟨A, cap, hv, h⟩ := h.out
  refine ⟨A, cap, hv, ?_⟩
  rcases h with h | ⟨g, hA, hB, hg, hx⟩
  · exact .inl h
  · exact .inr ⟨g, hA, hB, Nat.lt_of_lt_of_le hg hb.size, fun i hi => ⟨(hb.cell (p := ⟨g, i * 2, none⟩) hg).trans (hx i hi).1, (hb.cell (p := ⟨g, i * 2 + 1, none⟩) hg).trans (hx i hi).2⟩⟩
theorem OwnM.reads {W : World} {B : Nat} {v : Value} {l : List Mv} (ho : OwnM W B v l) : MvAt W B v l := by
  obtain ⟨hx, ⟨h0, h1⟩ | ⟨g, cap, cur, h0, hb, hg, hn, hc, hs, ht⟩⟩ := ho
  · exact ⟨none, 0, by rw [h0, h1], .inl (List.length_eq_zero_iff.1 h1)⟩
  · refine ⟨_, cap, h0, .inr ⟨g, rfl, hb, ?_, ?_⟩⟩
    · rcases Nat.lt_or_ge g W.heap.size with h | h
      · exact h
      · rw [Array.getElem?_eq_none h] at hg; cases hg
    · intro i hi
      have key : ∀ j, j < 2 → W.cell? ⟨g, i * 2 + j, none⟩ = (mvC l[i])[j]? := by
        intro j hj
        have e := flatM_get l i j hi hj
        rw [← ht, List.getElem?_take] at e
        split at e
        · simp only [World.cell?, hg]
          simpa using e
        · match j, hj with
          | 0, _ | 1, _ => cases e
      have k0 := key 0 (by omega)
      have k1 := key 1 (by omega)
      exact ⟨k0, k1⟩
theorem MvAt.at {W : World} {B : Nat} {v : Value} {l : List Mv} (h : MvAt W B v l) (hl : l ≠ []) : ∃ g cap, v = .slice (some ⟨g, 0, none⟩) l.length cap ∧ B ≤ g ∧ g < W.heap.size ∧ ∀ i (h : i < l.length), W.cell? ⟨g, i * 2, none⟩ = some (.int .i64 (l[i].1 : Int)) ∧ W.cell? ⟨g, i * 2 + 1, none⟩ = some (.int .i64 (l[i].2 : Int)) := by
  obtain ⟨A, cap, hv, h1 | ⟨g, rfl, h2⟩⟩ := h.out
  · exact absurd h1 hl
  · exact ⟨g, cap, hv, h2⟩
theorem MvAt.form {W : World} {B : Nat} {v : Value} {l : List Mv} (h : MvAt W B v l) : ∃ A cap, v = .slice A l.length cap := by
  obtain ⟨A, cap, hv, _⟩ := h.out
  exact ⟨A, cap, hv⟩
end Go.Proofs.YtllbkppdkldmiaaGreatDoor.K

/- slices.IndexFunc, ContainsFunc and DeleteFunc at []api.Move, over a function value that may make memory. -/
namespace Go.Proofs.YtllbkppdkldmiaaGreatDoor.K
open Go.RowKit Go.Lib Go.Proofs.YtllbkppdkldmiaaGreatDoorW.PrintWords Go.Proofs.YtllbkppdkldmiaaGreatDoorW.PrintLast Go.Proofs.YtllbkppdkldmiaaGreatDoorW.PrintMore
set_option linter.unusedVariables false
set_option linter.unusedSimpArgs false
/-- A move's value. -/
abbrev mvV (m : Mv) : Value := .agg #[.int .i64 (m.1 : Int), .int .i64 (m.2 : Int)]
/-- What a function value owes that is asked of a list's moves: at each, in every later world but for the row b. -/
def GivesM (g : Nat) (lb : Array Value) (p : Mv → Bool) (xs : List Mv) (b : Nat) (w : World) : Prop :=
  ∀ (W : World) (x : Mv), x ∈ xs → KeepBut w W b none → Calls Tryz.prog g (#[mvV x] ++ lb) W fun e W' => e = .returned (.bool (p x)) ∧ Below W.heap.size W W'
/-- A row of moves at block b: its cells may be read and written. -/
theorem OwnM.cellsAt {W : World} {B b n cap : Nat} {xs : List Mv} (h : W.ownsRow B 49 2 (.slice (some ⟨b, 0, none⟩) n cap) n (flatM xs)) (i : Nat) (hi : i < xs.length) :
    W.cell? ⟨b, i * 2, none⟩ = some (.int .i64 ((xs.getD i (0, 0)).1 : Int)) ∧ W.cell? ⟨b, i * 2 + 1, none⟩ = some (.int .i64 ((xs.getD i (0, 0)).2 : Int)) := by
  have hg : xs.getD i (0, 0) = xs[i] := by simp [List.getD_eq_getElem?_getD, hi]
  rw [hg]
  constructor
  · have hc := h.cells (g := b) rfl (i * 2) (.int .i64 (xs[i].1 : Int)) (by have := flatM_get xs i 0 hi (by omega); rw [Nat.add_zero] at this; rw [this]; rfl)
    rwa [add_plain] at hc
  · have hc := h.cells (g := b) rfl (i * 2 + 1) (.int .i64 (xs[i].2 : Int)) (by rw [flatM_get xs i 1 hi (by omega)]; rfl)
    rwa [add_plain] at hc
theorem OwnM.free {W : World} {B b n cap : Nat} {xs : List Value} (h : W.ownsRow B 49 2 (.slice (some ⟨b, 0, none⟩) n cap) n xs) (i : Nat) : W.frozen? ⟨b, i, none⟩ = false := by
  rcases h.2 with ⟨h', _⟩ | ⟨g', cap', cur, h', _, hh, _⟩
  · cases h'
  · have : b = g' := by injection h' with h'; injection h' with h'; injection h' with h'
    subst this
    simp [World.frozen?, hh]
theorem flatM_set (xs : List Mv) (i : Nat) (m : Mv) : ((flatM xs).set (i * 2) (.int .i64 (m.1 : Int))).set (i * 2 + 1) (.int .i64 (m.2 : Int)) = flatM (xs.set i m) := by
  induction xs generalizing i with
  | nil => simp [flatM]
  | cons x r ih =>
    cases i with
    | zero => simp [flatM, mvC]
    | succ i =>
      have := ih i
      simp only [flatM, List.flatMap_cons, List.set_cons_succ] at this ⊢
      rw [← this]
      rw [show (i + 1) * 2 = i * 2 + 1 + 1 by omega]
      simp [mvC]
theorem OwnM.put {W : World} {B b n cap : Nat} {xs : List Mv} (h : W.ownsRow B 49 2 (.slice (some ⟨b, 0, none⟩) n cap) n (flatM xs)) (i : Nat) (m : Mv) :
    ((W.setCell ⟨b, i * 2, none⟩ (.int .i64 (m.1 : Int))).setCell ⟨b, i * 2 + 1, none⟩ (.int .i64 (m.2 : Int))).ownsRow B 49 2 (.slice (some ⟨b, 0, none⟩) n cap) n (flatM (xs.set i m)) := by
  have h1 := (h.stored (i * 2) (.int .i64 (m.1 : Int))).1
  have h2 := (h1.stored (i * 2 + 1) (.int .i64 (m.2 : Int))).1
  rwa [flatM_set] at h2
set_option maxHeartbeats 1000000 in
/-- slices.IndexFunc: no element is so. -/
theorem idxM_none (g : Nat) (lb : Array Value) (p : Mv → Bool) (eg : ∀ args w, (callFunc g args).run Tryz.prog w = .ok (.enter g args) w) (base b cap : Nat) (xs : List Mv) (w : World)
    (HO : w.ownsRow base 49 2 (.slice (some ⟨b, 0, none⟩) xs.length cap) xs.length (flatM xs)) (hg : GivesM g lb p xs b w) (hlen : xs.length ≤ 1000000)
    (hn : ∀ x ∈ xs, p x = false) :
    Calls Tryz.prog 109 #[.slice (some ⟨b, 0, none⟩) xs.length cap, .func (.func g) #[] lb] w fun e w' => e = .returned (.int .i64 (-1)) ∧ Below w.heap.size w w' := by
  have HG := Aside0.mk hg
  have HN := Aside0.mk hn
  have HX := Aside0.mk HO
  have hu2 := Tryz.underlying49
  clear hg hn HO
  go_enter Tryz.func109, Tryz.ntmps109
  go_wp2
  go_loopg [5, 8] xs.length (fun gg _ s8 wr => ∃ kk : Nat, kk ≤ xs.length ∧ xs.length - kk ≤ gg ∧ s8 = .int .i64 kk ∧ Below w.heap.size w wr)
  case atStart => exact ⟨0, Nat.zero_le _, by omega, rfl, Below.refl _ _⟩
  case round =>
    obtain ⟨kk, hkk, hgg, rfl, hB0⟩ := hrel
    have hB := Aside0.mk hB0
    clear hB0
    by_cases hlt : kk < xs.length
    · have hltz : (kk : Int) < (xs.length : Int) := by omega
      have ho := pw_own_below HX.out hB.out
      obtain ⟨hc0, hc1⟩ := OwnM.cellsAt ho kk hlt
      clear ho
      have hm : xs.getD kk (0, 0) ∈ xs := by simp [List.getD_eq_getElem?_getD, hlt]
      have hcall := HG.out wr (xs.getD kk (0, 0)) hm (KeepBut.of_below hB.out b none)
      rw [HN.out _ hm] at hcall
      generalize xs.getD kk (0, 0) = y at hc0 hc1 hcall
      obtain ⟨ya, yb⟩ := y
      simp only at hc0 hc1
      clear hm
      go_wp2_with (go_at_fn g; refine hcall.mono ?_; rintro e w' ⟨rfl, hb2⟩)
      go_roundg (xs.length - (kk + 1))
      case measure => omega
      case rel => exact ⟨kk + 1, by omega, by omega, by go_num, below_then hB.out hB.out.size hb2⟩
    · have hltz : ¬ (kk : Int) < (xs.length : Int) := by omega
      go_wp2
      go_ret
      exact ⟨rfl, hB.out⟩
set_option maxHeartbeats 1000000 in
/-- .. or one is, the first at k. -/
theorem idxM_hit (g : Nat) (lb : Array Value) (p : Mv → Bool) (eg : ∀ args w, (callFunc g args).run Tryz.prog w = .ok (.enter g args) w) (base b cap : Nat) (xs : List Mv) (w : World)
    (HO : w.ownsRow base 49 2 (.slice (some ⟨b, 0, none⟩) xs.length cap) xs.length (flatM xs)) (hg : GivesM g lb p xs b w) (hlen : xs.length ≤ 1000000)
    (k : Nat) (hk : k < xs.length) (hit : p (xs.getD k (0, 0)) = true) (hn : ∀ j, j < k → p (xs.getD j (0, 0)) = false) :
    Calls Tryz.prog 109 #[.slice (some ⟨b, 0, none⟩) xs.length cap, .func (.func g) #[] lb] w fun e w' => e = .returned (.int .i64 k) ∧ Below w.heap.size w w' := by
  have HG := Aside0.mk hg
  have HN := Aside0.mk hn
  have HX := Aside0.mk HO
  have HI := Aside0.mk hit
  have hu2 := Tryz.underlying49
  clear hg hn HO hit
  go_enter Tryz.func109, Tryz.ntmps109
  go_wp2
  go_loopg [5, 8] xs.length (fun gg _ s8 wr => ∃ kk : Nat, kk ≤ k ∧ xs.length - kk ≤ gg ∧ s8 = .int .i64 kk ∧ Below w.heap.size w wr)
  case atStart => exact ⟨0, Nat.zero_le _, by omega, rfl, Below.refl _ _⟩
  case round =>
    obtain ⟨kk, hkk, hgg, rfl, hB0⟩ := hrel
    have hB := Aside0.mk hB0
    clear hB0
    have hlt : kk < xs.length := by omega
    have hltz : (kk : Int) < (xs.length : Int) := by omega
    have ho := pw_own_below HX.out hB.out
    obtain ⟨hc0, hc1⟩ := OwnM.cellsAt ho kk hlt
    clear ho
    have hm : xs.getD kk (0, 0) ∈ xs := by simp [List.getD_eq_getElem?_getD, hlt]
    have hcall := HG.out wr (xs.getD kk (0, 0)) hm (KeepBut.of_below hB.out b none)
    clear hm hlt
    by_cases hkz : kk = k
    · subst hkz
      rw [HI.out] at hcall
      generalize xs.getD kk (0, 0) = y at hc0 hc1 hcall
      obtain ⟨ya, yb⟩ := y
      simp only at hc0 hc1
      go_wp2_with (go_at_fn g; refine hcall.mono ?_; rintro e w' ⟨rfl, hb2⟩)
      go_ret
      exact ⟨rfl, below_then hB.out hB.out.size hb2⟩
    · have hkl : kk + 1 ≤ k := by omega
      rw [HN.out kk (by omega)] at hcall
      generalize xs.getD kk (0, 0) = y at hc0 hc1 hcall
      obtain ⟨ya, yb⟩ := y
      simp only at hc0 hc1
      clear hkz
      go_wp2_with (go_at_fn g; refine hcall.mono ?_; rintro e w' ⟨rfl, hb2⟩)
      go_roundg (xs.length - (kk + 1))
      case measure => omega
      case rel => exact ⟨kk + 1, by omega, by omega, by go_num, below_then hB.out hB.out.size hb2⟩
/-- Zeros behind a row's beginning leave the beginning. -/
theorem ownM_zeros (base b cap i : Nat) (xs : List Mv) (hx : xs.length = i) : ∀ (zs : List Value) (o : Nat) (W : World), i * 2 ≤ o → W.ownsRow base 49 2 (.slice (some ⟨b, 0, none⟩) i cap) i (flatM xs) →
    (W.setCells b o zs).ownsRow base 49 2 (.slice (some ⟨b, 0, none⟩) i cap) i (flatM xs) ∧ KeepBut W (W.setCells b o zs) b none ∧ ∀ (B0 : Nat) (w0 : World), B0 ≤ b → Below B0 w0 W → Below B0 w0 (W.setCells b o zs)
  | [], o, W, _, h => ⟨h, KeepBut.refl _ _ _, fun _ _ _ h => h⟩
  | z :: zs, o, W, ho, h => by
    have h1 := (h.stored o z).1
    rw [List.set_eq_of_length_le (by rw [flatM_len]; omega)] at h1
    obtain ⟨a, k, c⟩ := ownM_zeros base b cap i xs hx zs (o + 1) _ (by omega) h1
    exact ⟨a, ((KeepBut.refl W b none).set_ o _).trans k (.inl rfl), fun B0 w0 hb hB => c B0 w0 hb (hB.setCell (p := ⟨b, o, none⟩) hb _)⟩
theorem flatM_take (l : List Mv) (i : Nat) : (flatM l).take (i * 2) = flatM (l.take i) := by
  induction l generalizing i with
  | nil => simp [flatM]
  | cons x r ih =>
    cases i with
    | zero => simp [flatM]
    | succ i =>
      have := ih i
      simp only [flatM, List.flatMap_cons, List.take_succ_cons] at this ⊢
      rw [← this, show (i + 1) * 2 = i * 2 + 1 + 1 by omega]
      simp [mvC]
theorem ownM_take {W : World} {base b cap n : Nat} {xs : List Mv} (h : W.ownsRow base 49 2 (.slice (some ⟨b, 0, none⟩) n cap) n (flatM xs)) (i : Nat) (hi : i ≤ n) :
    W.ownsRow base 49 2 (.slice (some ⟨b, 0, none⟩) i cap) i (flatM (xs.take i)) := by
  obtain ⟨hl, h⟩ := h
  have hxl : xs.length = n := by rw [flatM_len] at hl; omega
  refine ⟨by rw [flatM_len, List.length_take]; congr 1; omega, ?_⟩
  rcases h with ⟨h, _⟩ | ⟨g, c, cur, h1, h2, h3, h4, h5, h6, h7⟩
  · cases h
  · injection h1 with a1 a2 a3
    injection a1 with a1
    injection a1 with a1
    subst a1 a3
    refine .inr ⟨b, cap, cur, rfl, h2, h3, by omega, h5, h6, ?_⟩
    rw [← flatM_take, ← h7, List.take_take]
    congr 1
    omega
/-- clear, of moves. -/
theorem clearM {w : World} (ty : TypeId) (b o n c : Nat) (hn : 0 < n) (hc : ∀ j, j < n * 2 → (w.cell? ⟨b, o + j, none⟩).isSome = true) (hf : ∀ j, j < n * 2 → w.frozen? ⟨b, o + j, none⟩ = false) :
    (Builtin.clear_ #[45] ty #[.slice (some ⟨b, o, none⟩) n c]).run Tryz.prog w = .ok (.tuple #[]) (w.setCells b o (List.replicate (n * 2) (.int .i64 0))) := by
  have hzc : (Builtin.zeroCells (Value.agg #[.int .i64 0, .int .i64 0]).cells n).toList = List.replicate (n * 2) (.int .i64 0) := by
    have e : (Value.agg #[.int .i64 0, .int .i64 0]).cells = #[.int .i64 0, .int .i64 0] := by rfl
    rw [e]
    apply List.ext_getElem
    · simp [Builtin.zeroCells]
    · intro i h1 h2
      have h3 : i % 2 = 0 ∨ i % 2 = 1 := by omega
      rcases h3 with h3 | h3 <;> simp [Builtin.zeroCells, h3]
  have hst := run_storeCells_cells (P := Tryz.prog) b o (List.replicate (n * 2) (.int .i64 0)) 0 w (by simpa using hc) (by simpa using hf) (by intro v hv'; rw [List.eq_of_mem_replicate hv']; rfl)
  simp only [Nat.add_zero] at hst
  have hv : ∀ w, (zeroValue 49).run Tryz.prog w = .ok (.agg #[.int .i64 0, .int .i64 0]) w := Tryz.zeroValue49
  obtain ⟨m, rfl⟩ : ∃ m, n = m + 1 := ⟨n - 1, by omega⟩
  simp [Builtin.clear_, run_underlying Tryz.underlying45, hv, hzc, hst]
set_option maxHeartbeats 2000000 in
/-- slices.DeleteFunc: what is left lies at the row's beginning. -/
theorem delM_calls (g : Nat) (lb : Array Value) (p : Mv → Bool) (eg : ∀ args w, (callFunc g args).run Tryz.prog w = .ok (.enter g args) w) (base b cap : Nat) (xs : List Mv) (B0 : Nat) (w : World)
    (HO : w.ownsRow base 49 2 (.slice (some ⟨b, 0, none⟩) xs.length cap) xs.length (flatM xs)) (hg : GivesM g lb p xs b w) (hlen : xs.length ≤ 1000000) (hcap : xs.length ≤ cap)
    (hb : B0 ≤ b) (hz : B0 ≤ w.heap.size) :
    Calls Tryz.prog 75 #[.slice (some ⟨b, 0, none⟩) xs.length cap, .func (.func g) #[] lb] w fun e w' => e = .returned (.slice (some ⟨b, 0, none⟩) (xs.filter fun x => !p x).length cap) ∧
      w'.ownsRow base 49 2 (.slice (some ⟨b, 0, none⟩) (xs.filter fun x => !p x).length cap) (xs.filter fun x => !p x).length (flatM (xs.filter fun x => !p x)) ∧ KeepBut w w' b none ∧ Below B0 w w' := by
  have HB := Aside0.mk (Below.refl B0 w)
  have HZ0 := Aside0.mk hz
  have HX := Aside0.mk HO
  have hu2 := Tryz.underlying49
  rcases Sp.first_hit p (0, 0) xs with hn | ⟨k, hk, hit, hn⟩
  · have hI := idxM_none g lb p eg base b cap xs w HO hg hlen hn
    have hf : (xs.filter fun x => !p x) = xs := by rw [List.filter_eq_self]; intro x hx; simp [hn x hx]
    rw [hf]
    clear hg hn HO hz hf
    go_enter Tryz.func75, Tryz.ntmps75
    go_wp2_with (go_at_call 109; refine hI.mono ?_; rintro e w1 ⟨rfl, hb1⟩)
    go_ret
    exact ⟨rfl, pw_own_below HX.out hb1, KeepBut.of_below hb1 b none, below_then HB.out (Nat.le_trans HZ0.out HB.out.size) hb1⟩
  · have hI := idxM_hit g lb p eg base b cap xs w HO hg hlen k hk hit hn
    have hS := Aside0.mk (Sp.DelInv.start p xs k (0, 0) hk hit hn)
    have HG := Aside0.mk hg
    have hk1 : ((k : Int) == -1) = false := beq_eq_false_iff_ne.2 (by omega)
    clear hg hn HO hz hit
    go_enter Tryz.func75, Tryz.ntmps75
    go_wp2_with (go_at_call 109; refine hI.mono ?_; rintro e w1 ⟨rfl, hb1⟩)
    go_loopg [5, 6, 7] xs.length (fun gg s5 s6 _ wr => ∃ (i j : Nat) (cur : List Mv), s5 = .int .i64 i ∧ s6 = .int .i64 j ∧ xs.length - j ≤ gg ∧ Aside0 (Sp.DelInv p xs cur i j) ∧ Aside0 (wr.ownsRow base 49 2 (.slice (some ⟨b, 0, none⟩) xs.length cap) xs.length (flatM cur)) ∧ Aside0 (KeepBut w wr b none) ∧ Aside0 (Below B0 w wr))
    case atStart => exact ⟨k, k + 1, xs, rfl, by go_num, by omega, hS, ⟨pw_own_below HX.out hb1⟩, ⟨KeepBut.of_below hb1 b none⟩, ⟨below_then HB.out (Nat.le_trans HZ0.out HB.out.size) hb1⟩⟩
    case round =>
      obtain ⟨i, j, cur, rfl, rfl, hgg, hD, hO, hK, hBw⟩ := hrel
      have hij := hD.out.lt
      have hjl := hD.out.le
      have hcl := Lib.hid hD.out.len
      by_cases hlt : j < xs.length
      · have hltz : (j : Int) < (xs.length : Int) := by omega
        obtain ⟨hj0, hj1⟩ := OwnM.cellsAt hO.out j (by rw [hcl.out]; exact hlt)
        obtain ⟨hi0, hi1⟩ := OwnM.cellsAt hO.out i (by rw [hcl.out]; omega)
        rw [hD.out.get (0, 0)] at hj0 hj1
        have hm : xs.getD j (0, 0) ∈ xs := by simp [List.getD_eq_getElem?_getD, hlt]
        have hcall := HG.out (wr.alloc (.cells #[.int .i64 ((xs.getD j (0, 0)).1 : Int), .int .i64 ((xs.getD j (0, 0)).2 : Int)] 49)) (xs.getD j (0, 0)) hm (keep_then_below hK.out (below_alloc (Below.refl _ _) _))
        clear hm
        obtain ⟨y, HY⟩ : ∃ y, Hid (xs.getD j (0, 0) = y) := ⟨_, rfl⟩
        rw [HY.out] at hj0 hj1 hcall
        obtain ⟨ya, yb⟩ := y
        generalize cur.getD i (0, 0) = old at hi0 hi1
        obtain ⟨oa, ob⟩ := old
        simp only at hi0 hi1 hj0 hj1 hcall
        have hafter : ∀ w2, Below (wr.alloc (.cells #[.int .i64 (ya : Int), .int .i64 (yb : Int)] 49)).heap.size (wr.alloc (.cells #[.int .i64 (ya : Int), .int .i64 (yb : Int)] 49)) w2 → Below wr.heap.size wr w2 ∧ w2.cell? ⟨wr.heap.size, 0, none⟩ = some (.int .i64 (ya : Int)) ∧ w2.cell? ⟨wr.heap.size, 1, none⟩ = some (.int .i64 (yb : Int)) ∧ w2.cell? ⟨b, i * 2, none⟩ = some (.int .i64 (oa : Int)) ∧ w2.cell? ⟨b, i * 2 + 1, none⟩ = some (.int .i64 (ob : Int)) ∧ ∀ k, w2.frozen? ⟨b, k, none⟩ = false := fun w2 h2 => by
          have h3 : Below wr.heap.size wr w2 := (below_alloc (Below.refl wr.heap.size wr) _).trans (h2.mono (by simp))
          exact ⟨h3, (h2.cell (p := ⟨wr.heap.size, 0, none⟩) (by simp)).trans (by simp [World.cell?_alloc_at]), (h2.cell (p := ⟨wr.heap.size, 1, none⟩) (by simp)).trans (by simp [World.cell?_alloc_at]), pw_cell_below h3 hi0, pw_cell_below h3 hi1, OwnM.free (pw_own_below hO.out h3)⟩
        have HA := Aside0.mk hafter
        clear hafter hi0 hi1
        cases hq : p (ya, yb) with
        | false =>
          rw [hq] at hcall
          have HQ := Lib.hid hq
          clear hq
          go_wp2_with (go_at_fn g; refine hcall.mono ?_; rintro e w2 ⟨rfl, hb2⟩; obtain ⟨hb3, hy0, hy1, hc2, hd2, hf2⟩ := HA.out w2 hb2)
          go_roundg (xs.length - (j + 1))
          case measure => omega
          case rel =>
            have hO2 := pw_own_below hO.out hb3
            have hs := OwnM.put hO2 i (ya, yb)
            exact ⟨i + 1, j + 1, cur.set i (ya, yb), by go_num, by go_num, by omega, ⟨HY.out ▸ hD.out.keep hlt (0, 0) (by rw [HY.out]; exact HQ.out)⟩, ⟨hs⟩, ⟨((keep_then_below hK.out hb3).set_ (i * 2) _).set_ (i * 2 + 1) _⟩, ⟨((below_then hBw.out (Nat.le_trans HZ0.out hBw.out.size) hb3).setCell (p := ⟨b, i * 2, none⟩) hb _).setCell (p := ⟨b, i * 2 + 1, none⟩) hb _⟩⟩
        | true =>
          rw [hq] at hcall
          have HQ := Lib.hid hq
          clear hq
          go_wp2_with (go_at_fn g; refine hcall.mono ?_; rintro e w2 ⟨rfl, hb2⟩; obtain ⟨hb3, hy0, hy1, hc2, hd2, hf2⟩ := HA.out w2 hb2)
          go_roundg (xs.length - (j + 1))
          case measure => omega
          case rel => exact ⟨i, j + 1, cur, rfl, by go_num, by omega, ⟨hD.out.skip hlt (0, 0) (by rw [HY.out]; exact HQ.out)⟩, ⟨pw_own_below hO.out hb3⟩, ⟨keep_then_below hK.out hb3⟩, ⟨below_then hBw.out (Nat.le_trans HZ0.out hBw.out.size) hb3⟩⟩
      · obtain rfl : j = xs.length := by omega
        have hltz : ¬ (xs.length : Int) < (xs.length : Int) := by omega
        have hpt : wr.ownsRow base 49 2 (.slice (some ⟨b, 0, none⟩) i cap) i (flatM (cur.take i)) := ownM_take hO.out i (by omega)
        have hlt2 : (cur.take i).length = i := by rw [List.length_take, hcl.out]; omega
        have HZ := Aside0.mk (ownM_zeros base b cap i (cur.take i) hlt2 (List.replicate ((xs.length - i) * 2) (.int .i64 0)) (i * 2) wr (Nat.le_refl _) hpt)
        clear hpt hlt2
        have hcl2 : ∀ ty, (Builtin.clear_ #[45] ty #[.slice (some ⟨b, i * 2, none⟩) (xs.length - i) (cap - i)]).run Tryz.prog wr = .ok (.tuple #[]) (wr.setCells b (i * 2) (List.replicate ((xs.length - i) * 2) (.int .i64 0))) :=
          fun ty => clearM ty b (i * 2) (xs.length - i) (cap - i) (by omega)
            (fun t ht => by
              have ha : (i * 2 + t) / 2 < cur.length := by rw [hcl.out]; omega
              obtain ⟨h0, h1⟩ := OwnM.cellsAt hO.out ((i * 2 + t) / 2) ha
              have h3 : i * 2 + t = (i * 2 + t) / 2 * 2 ∨ i * 2 + t = (i * 2 + t) / 2 * 2 + 1 := by omega
              rcases h3 with h3 | h3
              · rw [h3, h0]; rfl
              · rw [h3, h1]; rfl)
            (fun t ht => OwnM.free hO.out _)
        go_wp2
        go_ret
        obtain ⟨z1, z2, z3⟩ := HZ.out
        have e1 := hD.out.done
        have e2 := hD.out.count
        rw [e1] at z1
        exact ⟨by rw [e2]; rfl, by rw [e2]; exact z1, hK.out.trans z2 (.inl rfl), z3 B0 w hb hBw.out⟩
set_option maxHeartbeats 1000000 in
theorem idxM_nil (a : Option Addr) (c : Nat) (fv : Value) (w : World) :
    Calls Tryz.prog 109 #[.slice a 0 c, fv] w fun e w' => e = .returned (.int .i64 (-1)) ∧ w' = w := by
  go_enter Tryz.func109, Tryz.ntmps109
  go_wp2
  go_loopg [8] 0 (fun gg s8 wr => s8 = .int .i64 0 ∧ wr = w)
  case atStart => exact ⟨rfl, rfl⟩
  case round =>
    obtain ⟨rfl, rfl⟩ := hrel
    go_wp2
    go_ret
    exact ⟨rfl, rfl⟩
set_option maxHeartbeats 1000000 in
theorem delM_nil (a : Option Addr) (c : Nat) (fv : Value) (w : World) :
    Calls Tryz.prog 75 #[.slice a 0 c, fv] w fun e w' => e = .returned (.slice a 0 c) ∧ w' = w := by
  have hI := idxM_nil a c fv w
  go_enter Tryz.func75, Tryz.ntmps75
  go_wp2_with (go_at_call 109; refine hI.mono ?_; rintro e w1 ⟨rfl, rfl⟩)
  go_ret
  exact ⟨rfl, rfl⟩
/-- slices.DeleteFunc in these words. -/
theorem del_M (g : Nat) (lb : Array Value) (p : Mv → Bool) (eg : ∀ args w, (callFunc g args).run Tryz.prog w = .ok (.enter g args) w) (B : Nat) (v : Value) (xs : List Mv) (w : World) (hz : B ≤ w.heap.size)
    (ho : OwnM w B v xs) (hlen : xs.length ≤ 1000000) (hg : ∀ b, B ≤ b → b < w.heap.size → v.ownBlock = some b → GivesM g lb p xs b w) :
    Calls Tryz.prog 75 #[v, .func (.func g) #[] lb] w fun e w' => ∃ v' : Value, e = .returned v' ∧ OwnM w' B v' (xs.filter fun x => !p x) ∧ Below B w w' := by
  have ho' := ho
  obtain ⟨hl, ⟨rfl, h0⟩ | ⟨b, cap, cur, hv, hb, hh, hnc, hcm, hcs, hct⟩⟩ := ho
  · obtain rfl : xs = [] := List.length_eq_zero_iff.mp h0
    exact (delM_nil none 0 _ w).mono fun e w' ⟨he, hw⟩ => ⟨_, he, hw ▸ ho', hw ▸ Below.refl _ _⟩
  · subst hv
    refine (delM_calls g lb p eg B b cap xs B w ho' (hg b hb (blk_lt hh) rfl) hlen hnc hb hz).mono ?_
    rintro e w' ⟨he, h1, _, h3⟩
    exact ⟨_, he, h1, h3⟩
/-- slices.IndexFunc in these words: where the first is, or -1. -/
theorem idx_M (g : Nat) (lb : Array Value) (p : Mv → Bool) (eg : ∀ args w, (callFunc g args).run Tryz.prog w = .ok (.enter g args) w) (B : Nat) (v : Value) (xs : List Mv) (w : World)
    (ho : OwnM w B v xs) (hlen : xs.length ≤ 1000000) (hg : ∀ b, B ≤ b → b < w.heap.size → v.ownBlock = some b → GivesM g lb p xs b w) :
    Calls Tryz.prog 109 #[v, .func (.func g) #[] lb] w fun e w' => ∃ k : Int, e = .returned (.int .i64 k) ∧ Below w.heap.size w w' ∧ ((k = -1 ∧ ∀ x ∈ xs, p x = false) ∨ (0 ≤ k ∧ k < xs.length ∧ p (xs.getD k.toNat (0, 0)) = true ∧ ∀ j, j < k.toNat → p (xs.getD j (0, 0)) = false)) := by
  have ho' := ho
  obtain ⟨hl, ⟨rfl, h0⟩ | ⟨b, cap, cur, hv, hb, hh, hnc, hcm, hcs, hct⟩⟩ := ho
  · obtain rfl : xs = [] := List.length_eq_zero_iff.mp h0
    exact (idxM_nil none 0 _ w).mono fun e w' ⟨he, hw⟩ => ⟨_, he, hw ▸ Below.refl _ _, .inl ⟨rfl, by simp⟩⟩
  · subst hv
    rcases Sp.first_hit p (0, 0) xs with hn | ⟨k, hk, hit, hn⟩
    · exact (idxM_none g lb p eg B b cap xs w ho' (hg b hb (blk_lt hh) rfl) hlen hn).mono fun e w' ⟨he, h1⟩ => ⟨_, he, h1, .inl ⟨rfl, hn⟩⟩
    · exact (idxM_hit g lb p eg B b cap xs w ho' (hg b hb (blk_lt hh) rfl) hlen k hk hit hn).mono fun e w' ⟨he, h1⟩ => ⟨_, he, h1, .inr ⟨by omega, by omega, by simpa using hit, by simpa using hn⟩⟩
end Go.Proofs.YtllbkppdkldmiaaGreatDoor.K

/- Plain facts of the moves of a position; two rows of moves (the same as in C12, for seats without PseudoCaptures). -/
namespace Go.Proofs.YtllbkppdkldmiaaGreatDoor.K
open Go.RowKit Go.Lib Go.Proofs.YtllbkppdkldmiaaGreatDoorW.PrintWords Go.Proofs.YtllbkppdkldmiaaGreatDoor.Sp
set_option linter.unusedVariables false
set_option linter.unusedSimpArgs false
attribute [local go_sem] cel_get   -- for this text's walks alone
theorem checkP_board {p : Pos} (h : checkP p = 0) : argOk p = true := by
  unfold checkP at h
  cases ha : argOk p
  · rw [ha] at h; simp at h
  · rfl
theorem gath_cap (p : Pos) : gathP p (fun x => x != 46) = (gathP p (fun _ => true)).filter (fun m => cel p.cells m.2 != 46) := by
  unfold gathP
  split
  · unfold gathM
    rw [List.filter_flatMap]
    congr 1
    funext a
    unfold fromM
    split
    · simp [List.filter_map, List.filter_filter, Function.comp_def]
    · rfl
  · rfl
theorem gath_mem {p : Pos} {q : Nat → Bool} {m : Mv} (h : m ∈ gathP p q) : checkP p = 0 ∧ m.1 < 90 ∧ m.2 < 90 ∧ sideN (cel p.cells m.1) = p.side ∧ fastN (cel p.cells) m.1 m.2 = true ∧ q (cel p.cells m.2) = true := by
  unfold gathP at h
  split at h
  · rename_i hc
    unfold gathM at h
    obtain ⟨a, ha, hm⟩ := List.mem_flatMap.1 h
    unfold fromM at hm
    split at hm
    · rename_i hs
      obtain ⟨b, hb, rfl⟩ := List.mem_map.1 hm
      obtain ⟨hb1, hb2⟩ := List.mem_filter.1 hb
      have hb3 : b ∈ (List.range 90).filter (fun b => fastN (cel p.cells) a b) := hb1
      exact ⟨hc, List.mem_range.1 ha, allN_lt _ _ b hb1, hs, (List.mem_filter.1 hb3).2, hb2⟩
    · simp at hm
  · simp at h
theorem gath_len (p : Pos) (q : Nat → Bool) : (gathP p q).length ≤ 8100 := by
  unfold gathP
  split
  · exact gathM_len _ _ _ _
  · simp
theorem take_filter {α : Type} (l : List α) (f : α → Bool) (i : Nat) (h : i < l.length) : ((l.take (i + 1)).filter f) = (l.take i).filter f ++ (if f l[i] = true then [l[i]] else []) := by
  rw [List.take_succ_eq_append_getElem h, List.filter_append]
  congr 1
  split <;> simp_all
theorem filter_at {α : Type} (l : List α) (f : α → Bool) (i : Nat) (h : i < l.length) (hf : f l[i] = true) : (l.filter f)[((l.take i).filter f).length]? = some l[i] := by
  have e : l = l.take i ++ l[i] :: l.drop (i + 1) := by rw [← List.drop_eq_getElem_cons h, List.take_append_drop]
  have e2 : l.filter f = (l.take i).filter f ++ l[i] :: (l.drop (i + 1)).filter f := by
    conv => lhs; rw [e]
    rw [List.filter_append, List.filter_cons_of_pos hf]
  rw [e2]
  simp
/-- Two rows of moves beside a position's box. -/
structure TwoAt (w0 W : World) (p : Pos) (v1 v2 : Value) (l k : List Mv) : Prop where
  box : BoxP W w0.heap.size p
  m1 : MvAt W w0.heap.size v1 l
  m2 : MvAt W w0.heap.size v2 k
  bel : Below w0.heap.size w0 W
theorem TwoAt.below {w0 W W' : World} {p : Pos} {v1 v2 : Value} {l k : List Mv} (h : TwoAt w0 W p v1 v2 l k) (hb : Below W.heap.size W W') : TwoAt w0 W' p v1 v2 l k :=
  ⟨h.box.below hb, h.m1.below hb, h.m2.below hb, below_go h.bel hb⟩
theorem MvAt.lower {W : World} {B B' : Nat} {v : Value} {l : List Mv} (h : MvAt W B v l) (hb : B' ≤ B) : MvAt W B' v l := by
  obtain ⟨A, cap, hv, h⟩ := h.out
  refine ⟨A, cap, hv, ?_⟩
  rcases h with h | ⟨g, hA, hB, h⟩
  · exact .inl h
  · exact .inr ⟨g, hA, Nat.le_trans hb hB, h⟩
end Go.Proofs.YtllbkppdkldmiaaGreatDoor.K

/- Walk: pseudo.Apply. -/
namespace Go.Proofs.YtllbkppdkldmiaaGreatDoor.K
open Go.RowKit Go.Lib Go.Proofs.YtllbkppdkldmiaaGreatDoorW.PrintWords Go.Proofs.YtllbkppdkldmiaaGreatDoor.Sp
set_option linter.unusedVariables false
set_option linter.unusedSimpArgs false
attribute [local go_sem] cel_get   -- for this text's walks alone
/-- A board behind a move. -/
def movedB (s : ByteArray) (a b : Nat) : ByteArray := strOfNums (((bytesOf s).set b (cel s a)).set a 46)
/-- A move's numbers. -/
structure Mvi where
  frm : Int
  dest : Int
abbrev mviV (m : Mvi) : Value := .agg #[.int .i64 m.frm, .int .i64 m.dest]
/-- May a move be applied to a position that is right? -/
def goodM (p : Pos) (m : Mvi) : Bool := sideN (atS p.cells m.frm) == p.side && (kindN (atS p.cells m.dest) != 75 && (allS p.cells m.frm).any (fun n => (n : Int) == m.dest))
def zeroP : Pos := ⟨ByteArray.empty, 0, 0, 0⟩
/-- Behind a move; what was taken; or why there is none. -/
def applyP (p : Pos) (m : Mvi) : Pos × Nat × Int :=
  if checkP p ≠ 0 then (zeroP, 0, checkP p) else
  if goodM p m = false then (zeroP, 0, 7) else
  (⟨movedB p.cells m.frm.toNat m.dest.toNat, 1 - p.side, if atS p.cells m.dest = 46 then min (p.clock + 1) 120 else 0, if p.side = 1 then min (p.full + 1) 9999 else p.full⟩, if atS p.cells m.dest = 46 then 0 else atS p.cells m.dest, 0)
def ApplyIs (w : World) (p : Pos) (m : Mvi) (e : Ending) (w' : World) : Prop :=
  e = .returned (.tuple #[posV (applyP p m).1, .int .u8 ((applyP p m).2.1 : Int), .int .i64 (applyP p m).2.2]) ∧ Below w.heap.size w w'
/-- The boxes of Apply's arguments and result. -/
structure ApAt (w0 W : World) (p : Pos) (m : Mvi) : Prop where
  c0 : W.cell? ⟨w0.heap.size, 0, none⟩ = some (.string p.cells)
  c1 : W.cell? ⟨w0.heap.size, 1, none⟩ = some (.int .i64 p.side)
  c2 : W.cell? ⟨w0.heap.size, 2, none⟩ = some (.int .i64 p.clock)
  c3 : W.cell? ⟨w0.heap.size, 3, none⟩ = some (.int .i64 p.full)
  d0 : W.cell? ⟨w0.heap.size + 1, 0, none⟩ = some (.int .i64 m.frm)
  d1 : W.cell? ⟨w0.heap.size + 1, 1, none⟩ = some (.int .i64 m.dest)
  r0 : W.cell? ⟨w0.heap.size + 1 + 1, 0, none⟩ = some (.string ByteArray.empty)
  r1 : W.cell? ⟨w0.heap.size + 1 + 1, 1, none⟩ = some (.int .i64 0)
  r2 : W.cell? ⟨w0.heap.size + 1 + 1, 2, none⟩ = some (.int .i64 0)
  r3 : W.cell? ⟨w0.heap.size + 1 + 1, 3, none⟩ = some (.int .i64 0)
  fp : ∀ k, W.frozen? ⟨w0.heap.size, k, none⟩ = false
  fr : ∀ k, W.frozen? ⟨w0.heap.size + 1 + 1, k, none⟩ = false
  bel : Below w0.heap.size w0 W
  lt : w0.heap.size + 2 < W.heap.size
theorem ApAt.below {w0 W W' : World} {p : Pos} {m : Mvi} (h : ApAt w0 W p m) (hb : Below W.heap.size W W') : ApAt w0 W' p m :=
  ⟨below_cell hb _ _ _ h.c0, below_cell hb _ _ _ h.c1, below_cell hb _ _ _ h.c2, below_cell hb _ _ _ h.c3, below_cell hb _ _ _ h.d0, below_cell hb _ _ _ h.d1, below_cell hb _ _ _ h.r0, below_cell hb _ _ _ h.r1, below_cell hb _ _ _ h.r2, below_cell hb _ _ _ h.r3, fun k => (hb.frozen (p := ⟨w0.heap.size, k, none⟩) (by have := h.lt; show w0.heap.size < _; omega)).trans (h.fp k), fun k => (hb.frozen (p := ⟨w0.heap.size + 1 + 1, k, none⟩) (by have := h.lt; show w0.heap.size + 1 + 1 < _; omega)).trans (h.fr k), h.bel.trans (hb.mono h.bel.size), Nat.lt_of_lt_of_le h.lt hb.size⟩
theorem apat_new (w : World) (p : Pos) (m : Mvi) : ApAt w (((w.alloc (.cells #[.string p.cells, .int .i64 p.side, .int .i64 p.clock, .int .i64 p.full] 33)).alloc (.cells #[.int .i64 m.frm, .int .i64 m.dest] 49)).alloc (.cells #[.string ByteArray.empty, .int .i64 0, .int .i64 0, .int .i64 0] 33)) p m := by
  refine ⟨?_, ?_, ?_, ?_, ?_, ?_, ?_, ?_, ?_, ?_, fun k => (Below.frozen (below_alloc (below_alloc (Below.refl _ _) _) _) (p := ⟨w.heap.size, k, none⟩) (by simp)).trans (by simp [World.frozen?_alloc_at]), fun k => by simp [World.frozen?_alloc_at], below_alloc (below_alloc (below_alloc (Below.refl _ _) _) _) _, by simp⟩ <;> first | (simp [World.cell?_alloc_at, World.cell?_alloc_past]; done) | exact below_cell (below_alloc (Below.refl _ _) _) _ _ _ (below_cell (below_alloc (Below.refl _ _) _) _ _ _ (by simp [World.cell?_alloc_at]; done))
theorem ApAt.drew {w0 W : World} {p : Pos} {m : Mvi} (h : ApAt w0 W p m) : ApAt w0 W.drew p m := h.below (pw_below_drewN (Below.refl _ _) 1)
set_option maxRecDepth 100000 in
set_option maxHeartbeats 4000000 in
theorem apply_no (p : Pos) (m : Mvi) (w : World) (hck : checkP p ≠ 0) : Calls Tryz.prog 83 #[posV p, mviV m] w (ApplyIs w p m) := by
  have HCK := Aside0.mk (fun W => check_c p W)
  have hu := Tryz.underlying33
  have hu2 := Tryz.underlying49
  have HR := Aside0.mk (show applyP p m = (zeroP, 0, checkP p) by unfold applyP; rw [if_pos hck])
  have h2 : (checkP p != 0) = true := by simpa using hck
  clear hck
  generalize checkP p = ck at *
  go_enter Tryz.func83, Tryz.ntmps83
  go_wp2_with fail
  refine (HCK.out _).mono ?_
  rintro e w1 ⟨rfl, hb⟩
  have HA := Aside0.mk ((apat_new w p m).below hb)
  clear hb
  have fr := HA.out.fr
  have r0 := HA.out.r0
  have r1 := HA.out.r1
  have r2 := HA.out.r2
  have r3 := HA.out.r3
  go_wp2_with fail
  refine bodyPost_ret (by simp [results, Tryz.results83, go_sem, r0, r1, r2, r3]; try rfl) rfl ?_
  exact ⟨by rw [HR.out]; rfl, by (repeat' (first | (with_reducible exact Below.refl _ _) | (with_reducible refine pw_below_drewN ?_ _) | (with_reducible refine below_alloc ?_ _) | (with_reducible refine Below.drew ?_) | (with_reducible refine Below.setCell ?_ ?_ _) | (simp; done))) <;> first | exact HA.out.bel | (simp; done) | (simp; omega)⟩
set_option maxRecDepth 100000 in
set_option maxHeartbeats 4000000 in
theorem apply_bad (p : Pos) (m : Mvi) (w : World) (hck : checkP p = 0) (hg : goodM p m = false) : Calls Tryz.prog 83 #[posV p, mviV m] w (ApplyIs w p m) := by
  have HCK := Aside0.mk (fun W => check_c p W)
  have hu := Tryz.underlying33
  have hu2 := Tryz.underlying49
  have HR := Aside0.mk (show applyP p m = (zeroP, 0, 7) by unfold applyP; rw [if_neg (by simpa using hck), if_pos hg])
  have HF := Aside0.mk (fun W => at_c p.cells m.frm W)
  have HD := Aside0.mk (fun W => at_c p.cells m.dest W)
  have HALL := Aside0.mk (fun W => all_c p.cells m.frm W)
  have HX := Aside0.mk (show atS p.cells m.frm < 256 by unfold atS; split; exact cel_lt _ _; omega)
  have HY := Aside0.mk (show atS p.cells m.dest < 256 by unfold atS; split; exact cel_lt _ _; omega)
  have HL := Aside0.mk (show (allS p.cells m.frm).length ≤ 1000000 by unfold allS; split; exact Nat.le_trans (allN_len _ _) (by omega); simp)
  unfold goodM at hg
  rw [hck] at HCK
  clear hck
  generalize atS p.cells m.frm = x at *
  generalize atS p.cells m.dest = y at *
  generalize allS p.cells m.frm = l at *
  have HS := Aside0.mk (fun W => side_c x HX.out W)
  have HK := Aside0.mk (fun W => kind_c y HY.out W)
  cases h1 : (sideN x == p.side)
  case false =>
    clear hg
    go_enter Tryz.func83, Tryz.ntmps83
    go_wp2_with fail
    refine (HCK.out _).mono ?_
    rintro e w1 ⟨rfl, hb⟩
    have HA := Aside0.mk ((apat_new w p m).below hb)
    clear hb
    have c0 := HA.out.c0
    have c1 := HA.out.c1
    have d0 := HA.out.d0
    go_wp2_with fail
    go_region_held3 (fun W => W.cell? ⟨w.heap.size, 0, none⟩ = some (.string p.cells) ∧ W.cell? ⟨w.heap.size, 1, none⟩ = some (.int .i64 p.side) ∧ W.cell? ⟨w.heap.size + 1, 0, none⟩ = some (.int .i64 m.frm)) (go_keep)
      (first
        | (go_at_call 27; refine (HF.out _).mono ?_; rintro e w2 ⟨rfl, hb⟩; have HA2 := Aside0.mk (HA.out.drew.below hb); have c0' := HA2.out.c0; have c1' := HA2.out.c1; have d0' := HA2.out.d0; clear hb)
        | (go_at_call 26; refine (HS.out _).mono ?_; rintro e w3 ⟨rfl, rfl⟩))
    clear HA c0 c1 d0 c1' d0'
    have d1 := HA2.out.d1
    go_wp2_with fail
    refine (HD.out _).mono ?_
    rintro e w4 ⟨rfl, hb⟩
    have HA := Aside0.mk (HA2.out.below hb)
    clear hb HA2 c0' d1
    go_wp2_with fail
    go_quiet (fail)
    have HA1 := Aside0.mk (HA.out.below (pw_below_drewN (Below.refl _ _) nq))
    have fr := HA1.out.fr
    have r0 := HA1.out.r0
    have r1 := HA1.out.r1
    have r2 := HA1.out.r2
    have r3 := HA1.out.r3
    generalize w4.drewN nq = w5 at *
    go_wp2_with fail
    refine bodyPost_ret (by simp [results, Tryz.results83, go_sem, r0, r1, r2, r3]; try rfl) rfl ?_
    exact ⟨by rw [HR.out]; rfl, by (repeat' (first | (with_reducible exact Below.refl _ _) | (with_reducible refine pw_below_drewN ?_ _) | (with_reducible refine below_alloc ?_ _) | (with_reducible refine Below.drew ?_) | (with_reducible refine Below.setCell ?_ ?_ _) | (simp; done))) <;> first | exact HA1.out.bel | (simp; done) | (simp; omega)⟩
  case true =>
  cases h2 : (kindN y == 75)
  case true =>
    have hk : (((kindN y : Nat) : Int) == 75) = true := by rw [beq_iff_eq] at *; omega
    clear hg
    go_enter Tryz.func83, Tryz.ntmps83
    go_wp2_with fail
    refine (HCK.out _).mono ?_
    rintro e w1 ⟨rfl, hb⟩
    have HA := Aside0.mk ((apat_new w p m).below hb)
    clear hb
    have c0 := HA.out.c0
    have c1 := HA.out.c1
    have d0 := HA.out.d0
    go_wp2_with fail
    go_region_held3 (fun W => W.cell? ⟨w.heap.size, 0, none⟩ = some (.string p.cells) ∧ W.cell? ⟨w.heap.size, 1, none⟩ = some (.int .i64 p.side) ∧ W.cell? ⟨w.heap.size + 1, 0, none⟩ = some (.int .i64 m.frm)) (go_keep)
      (first
        | (go_at_call 27; refine (HF.out _).mono ?_; rintro e w2 ⟨rfl, hb⟩; have HA2 := Aside0.mk (HA.out.drew.below hb); have c0' := HA2.out.c0; have c1' := HA2.out.c1; have d0' := HA2.out.d0; clear hb)
        | (go_at_call 26; refine (HS.out _).mono ?_; rintro e w3 ⟨rfl, rfl⟩))
    clear HA c0 c1 d0 c1' d0'
    have d1 := HA2.out.d1
    go_wp2_with fail
    refine (HD.out _).mono ?_
    rintro e w4 ⟨rfl, hb⟩
    have HA := Aside0.mk (HA2.out.below hb)
    clear hb HA2 c0' d1
    go_wp2_with fail
    go_quiet (first | (go_at_call 104; exact Calls.quiet_of_same (HK.out _)))
    have HA1 := Aside0.mk (HA.out.below (pw_below_drewN (Below.refl _ _) nq))
    have fr := HA1.out.fr
    have r0 := HA1.out.r0
    have r1 := HA1.out.r1
    have r2 := HA1.out.r2
    have r3 := HA1.out.r3
    generalize w4.drewN nq = w5 at *
    go_wp2_with fail
    refine bodyPost_ret (by simp [results, Tryz.results83, go_sem, r0, r1, r2, r3]; try rfl) rfl ?_
    exact ⟨by rw [HR.out]; rfl, by (repeat' (first | (with_reducible exact Below.refl _ _) | (with_reducible refine pw_below_drewN ?_ _) | (with_reducible refine below_alloc ?_ _) | (with_reducible refine Below.drew ?_) | (with_reducible refine Below.setCell ?_ ?_ _) | (simp; done))) <;> first | exact HA1.out.bel | (simp; done) | (simp; omega)⟩
  case false =>
    have h3 : l.any (fun n => (n : Int) == m.dest) = false := by rw [h1] at hg; simp only [bne, h2, Bool.true_and, Bool.not_false] at hg; exact hg
    have hk : (((kindN y : Nat) : Int) == 75) = false := by rw [beq_eq_false_iff_ne] at *; omega
    clear hg
    go_enter Tryz.func83, Tryz.ntmps83
    go_wp2_with fail
    refine (HCK.out _).mono ?_
    rintro e w1 ⟨rfl, hb⟩
    have HA := Aside0.mk ((apat_new w p m).below hb)
    clear hb
    have c0 := HA.out.c0
    have c1 := HA.out.c1
    have d0 := HA.out.d0
    go_wp2_with fail
    go_region_held3 (fun W => W.cell? ⟨w.heap.size, 0, none⟩ = some (.string p.cells) ∧ W.cell? ⟨w.heap.size, 1, none⟩ = some (.int .i64 p.side) ∧ W.cell? ⟨w.heap.size + 1, 0, none⟩ = some (.int .i64 m.frm)) (go_keep)
      (first
        | (go_at_call 27; refine (HF.out _).mono ?_; rintro e w2 ⟨rfl, hb⟩; have HA2 := Aside0.mk (HA.out.drew.below hb); have c0' := HA2.out.c0; have c1' := HA2.out.c1; have d0' := HA2.out.d0; clear hb)
        | (go_at_call 26; refine (HS.out _).mono ?_; rintro e w3 ⟨rfl, rfl⟩))
    clear HA c0 c1 d0 c1' d0'
    have d1 := HA2.out.d1
    go_wp2_with fail
    refine (HD.out _).mono ?_
    rintro e w4 ⟨rfl, hb⟩
    have HA := Aside0.mk (HA2.out.below hb)
    clear hb HA2 c0' d1
    have c0 := HA.out.c0
    have d0 := HA.out.d0
    have d1 := HA.out.d1
    go_wp2_with fail
    go_region_held3 (fun W => W.cell? ⟨w.heap.size, 0, none⟩ = some (.string p.cells) ∧ W.cell? ⟨w.heap.size + 1, 0, none⟩ = some (.int .i64 m.frm) ∧ W.cell? ⟨w.heap.size + 1, 1, none⟩ = some (.int .i64 m.dest)) (go_keep)
      (first
        | (go_at_call 104; refine (HK.out _).mono ?_; rintro e w5 ⟨rfl, rfl⟩)
        | (go_at_call 66; refine (HALL.out _).mono ?_; rintro e w6 ⟨v, rfl, hv, hb⟩; have HA6 := Aside0.mk (HA.out.drew.below hb); have HV := Aside0.mk hv; have c0' := HA6.out.c0; have d0' := HA6.out.d0; have d1' := HA6.out.d1; clear hb hv)
        | (go_at_call 65; refine (containsI_c _ _ _ _ _ HV.out HL.out).mono ?_; rw [h3]; rintro e w7 ⟨rfl, rfl⟩))
    clear c0 d0 d1 c0' d0' d1'
    have fr := HA6.out.fr
    have r0 := HA6.out.r0
    have r1 := HA6.out.r1
    have r2 := HA6.out.r2
    have r3 := HA6.out.r3
    go_wp2_with fail
    refine bodyPost_ret (by simp [results, Tryz.results83, go_sem, r0, r1, r2, r3]; try rfl) rfl ?_
    exact ⟨by rw [HR.out]; rfl, by (repeat' (first | (with_reducible exact Below.refl _ _) | (with_reducible refine pw_below_drewN ?_ _) | (with_reducible refine below_alloc ?_ _) | (with_reducible refine Below.drew ?_) | (with_reducible refine Below.setCell ?_ ?_ _) | (simp; done))) <;> first | exact HA6.out.bel | (simp; done) | (simp; omega)⟩
end Go.Proofs.YtllbkppdkldmiaaGreatDoor.K

/- Walk: pseudo.Apply, where it is done. -/
namespace Go.Proofs.YtllbkppdkldmiaaGreatDoor.K
open Go.RowKit Go.Lib Go.Proofs.YtllbkppdkldmiaaGreatDoorW.PrintWords Go.Proofs.YtllbkppdkldmiaaGreatDoor.Sp
set_option linter.unusedVariables false
set_option linter.unusedSimpArgs false
attribute [local go_sem] cel_get   -- for this text's walks alone
theorem ApAt.upto {w0 W W' : World} {p : Pos} {m : Mvi} {n : Nat} (h : ApAt w0 W p m) (hn : w0.heap.size + 1 + 1 < n) (hb : Below n W W') : ApAt w0 W' p m :=
  ⟨(hb.cell (p := ⟨w0.heap.size, 0, none⟩) (by show w0.heap.size < n; omega)).trans h.c0, (hb.cell (p := ⟨w0.heap.size, 1, none⟩) (by show w0.heap.size < n; omega)).trans h.c1, (hb.cell (p := ⟨w0.heap.size, 2, none⟩) (by show w0.heap.size < n; omega)).trans h.c2, (hb.cell (p := ⟨w0.heap.size, 3, none⟩) (by show w0.heap.size < n; omega)).trans h.c3, (hb.cell (p := ⟨w0.heap.size + 1, 0, none⟩) (by show w0.heap.size + 1 < n; omega)).trans h.d0, (hb.cell (p := ⟨w0.heap.size + 1, 1, none⟩) (by show w0.heap.size + 1 < n; omega)).trans h.d1, (hb.cell (p := ⟨w0.heap.size + 1 + 1, 0, none⟩) (by show w0.heap.size + 1 + 1 < n; omega)).trans h.r0, (hb.cell (p := ⟨w0.heap.size + 1 + 1, 1, none⟩) (by show w0.heap.size + 1 + 1 < n; omega)).trans h.r1, (hb.cell (p := ⟨w0.heap.size + 1 + 1, 2, none⟩) (by show w0.heap.size + 1 + 1 < n; omega)).trans h.r2, (hb.cell (p := ⟨w0.heap.size + 1 + 1, 3, none⟩) (by show w0.heap.size + 1 + 1 < n; omega)).trans h.r3, fun k => (hb.frozen (p := ⟨w0.heap.size, k, none⟩) (by show w0.heap.size < n; omega)).trans (h.fp k), fun k => (hb.frozen (p := ⟨w0.heap.size + 1 + 1, k, none⟩) (by show w0.heap.size + 1 + 1 < n; omega)).trans (h.fr k), h.bel.trans (hb.mono (by omega)), Nat.lt_of_lt_of_le h.lt hb.size⟩
theorem bytes_getD (s : ByteArray) (i : Nat) (h : i < s.size) : (bytesOf s).getD i 0 = (cel s i : Int) := by
  have h' : i < s.data.toList.length := by rw [data_length]; exact h
  rw [← cel_get s i h]
  simp [bytesOf, List.getD_eq_getElem?_getD, List.getElem?_eq_getElem h']
  rfl
theorem good_parts {p : Pos} {m : Mvi} (h : goodM p m = true) : (sideN (atS p.cells m.frm) == p.side) = true ∧ (kindN (atS p.cells m.dest) == 75) = false ∧ (allS p.cells m.frm).any (fun n => (n : Int) == m.dest) = true ∧ isBoard p.cells = true ∧ (0 ≤ m.frm ∧ m.frm < 90) ∧ (0 ≤ m.dest ∧ m.dest < 90) := by
  unfold goodM at h
  simp only [Bool.and_eq_true, bne, Bool.not_eq_true'] at h
  obtain ⟨h1, h2, h3⟩ := h
  refine ⟨h1, h2, h3, ?_⟩
  obtain ⟨n, hn, he⟩ := List.any_eq_true.1 h3
  rw [beq_iff_eq] at he
  unfold allS at hn
  split at hn
  · rename_i hb
    have := allN_lt _ _ n hn
    exact ⟨hb.1, hb.2, by omega, by omega⟩
  · simp at hn
set_option maxRecDepth 100000 in
set_option maxHeartbeats 4000000 in
theorem apply_ok (p : Pos) (m : Mvi) (w : World) (hck : checkP p = 0) (hg : goodM p m = true) : Calls Tryz.prog 83 #[posV p, mviV m] w (ApplyIs w p m) := by
  obtain ⟨h1, h2, h3, hb, hf, hd⟩ := good_parts hg
  obtain ⟨m1, m2⟩ := m
  simp only at hf hd h1 h2 h3
  obtain ⟨a, rfl⟩ := Int.eq_ofNat_of_zero_le hf.1
  obtain ⟨b, rfl⟩ := Int.eq_ofNat_of_zero_le hd.1
  have hf1 := hf.2
  have hd1 := hd.2
  clear hf hd
  have HCK := Aside0.mk (fun W => check_c p W)
  have hu := Tryz.underlying33
  have hu2 := Tryz.underlying49
  have HR := Aside0.mk (show applyP p ⟨a, b⟩ = (⟨movedB p.cells a b, 1 - p.side, if atS p.cells (b : Int) = 46 then min (p.clock + 1) 120 else 0, if p.side = 1 then min (p.full + 1) 9999 else p.full⟩, if atS p.cells (b : Int) = 46 then 0 else atS p.cells (b : Int), 0) by unfold applyP; rw [if_neg (by simpa using hck), if_neg (by simpa using hg)]; rfl)
  have HF := Aside0.mk (fun W => at_c p.cells (a : Int) W)
  have HD := Aside0.mk (fun W => at_c p.cells (b : Int) W)
  have HALL := Aside0.mk (fun W => all_c p.cells (a : Int) W)
  have HX := Aside0.mk (show atS p.cells (a : Int) < 256 by unfold atS; split; exact cel_lt _ _; omega)
  have HY := Aside0.mk (show atS p.cells (b : Int) < 256 by unfold atS; split; exact cel_lt _ _; omega)
  have HL := Aside0.mk (show (allS p.cells (a : Int)).length ≤ 1000000 by unfold allS; split; exact Nat.le_trans (allN_len _ _) (by omega); simp)
  have HSZ := Aside0.mk (board_size hb)
  have HBD := Aside0.mk hb
  have hat : argOk p = true := by
    unfold checkP at hck
    cases ha : argOk p
    · rw [ha] at hck; simp at hck
    · rfl
  obtain ⟨_, hside, q1, q2, q3, q4⟩ := argOk_yes hat
  have HSIDE := Aside0.mk hside
  clear hg hb hat hside
  rw [hck] at HCK
  clear hck
  generalize atS p.cells (a : Int) = x at *
  generalize atS p.cells (b : Int) = y at *
  generalize allS p.cells (a : Int) = l at *
  have HS := Aside0.mk (fun W => side_c x HX.out W)
  have HK := Aside0.mk (fun W => kind_c y HY.out W)
  have hk : (((kindN y : Nat) : Int) == 75) = false := by rw [beq_eq_false_iff_ne] at *; omega
  go_enter Tryz.func83, Tryz.ntmps83
  go_wp2_with fail
  refine (HCK.out _).mono ?_
  rintro e w1 ⟨rfl, hb⟩
  have HA := Aside0.mk ((apat_new w p ⟨a, b⟩).below hb)
  clear hb
  have c0 := HA.out.c0
  have c1 := HA.out.c1
  have d0 := HA.out.d0
  go_wp2_with fail
  go_region_held3 (fun W => W.cell? ⟨w.heap.size, 0, none⟩ = some (.string p.cells) ∧ W.cell? ⟨w.heap.size, 1, none⟩ = some (.int .i64 p.side) ∧ W.cell? ⟨w.heap.size + 1, 0, none⟩ = some (.int .i64 (a : Int))) (go_keep)
    (first
      | (go_at_call 27; refine (HF.out _).mono ?_; rintro e w2 ⟨rfl, hb⟩; have HA2 := Aside0.mk (HA.out.drew.below hb); have c0' := HA2.out.c0; have c1' := HA2.out.c1; have d0' := HA2.out.d0; clear hb)
      | (go_at_call 26; refine (HS.out _).mono ?_; rintro e w3 ⟨rfl, rfl⟩))
  clear HA c0 c1 d0 c1' d0'
  have d1 := HA2.out.d1
  go_wp2_with fail
  refine (HD.out _).mono ?_
  rintro e w4 ⟨rfl, hb⟩
  have HA := Aside0.mk (HA2.out.below hb)
  clear hb HA2 c0' d1
  have c0 := HA.out.c0
  have d0 := HA.out.d0
  have d1 := HA.out.d1
  go_wp2_with fail
  go_region_held3 (fun W => W.cell? ⟨w.heap.size, 0, none⟩ = some (.string p.cells) ∧ W.cell? ⟨w.heap.size + 1, 0, none⟩ = some (.int .i64 (a : Int)) ∧ W.cell? ⟨w.heap.size + 1, 1, none⟩ = some (.int .i64 (b : Int))) (go_keep)
    (first
      | (go_at_call 104; refine (HK.out _).mono ?_; rintro e w5 ⟨rfl, rfl⟩)
      | (go_at_call 66; refine (HALL.out _).mono ?_; rintro e w6 ⟨v, rfl, hv, hb⟩; have HA6 := Aside0.mk (HA.out.drew.below hb); have HV := Aside0.mk hv; have c0' := HA6.out.c0; have d0' := HA6.out.d0; have d1' := HA6.out.d1; clear hb hv)
      | (go_at_call 65; refine (containsI_c _ _ _ _ _ HV.out HL.out).mono ?_; rw [h3]; rintro e w7 ⟨rfl, rfl⟩))
  clear c0 d0 d1 c0' d0' d1'
  have c0 := HA6.out.c0
  have kb := fun W => print_bytes (P := Tryz.prog) 9 64 5 Tryz.underlying9 Tryz.underlying64 Tryz.underlying5 p.cells W
  go_wp2_with (simp only [kb])
  have HB := Aside0.mk (bytes_at_new w7 5 p.cells)
  have HA7 := Aside0.mk (HA6.out.below (bytes_below (Below.refl _ _) (Nat.le_refl _) 5 p.cells))
  have HLT := Aside0.mk (Lib.bytesWorld_size w7 5 p.cells)
  generalize Lib.bytesWorld w7 5 p.cells = w8 at *
  have hsz : (p.cells.size : Int) = 90 := by rw [HSZ.out]; rfl
  have d0 := HA7.out.d0
  have d1 := HA7.out.d1
  obtain ⟨ka, fa⟩ := HB.out a (by rw [bytesOf_length, HSZ.out]; omega)
  obtain ⟨kb2, fb⟩ := HB.out b (by rw [bytesOf_length, HSZ.out]; omega)
  have HXA := Aside0.mk (show (bytesOf p.cells).getD a 0 = (cel p.cells a : Int) from bytes_getD p.cells a (by rw [HSZ.out]; omega))
  rw [HXA.out] at ka
  obtain ⟨ks, fs⟩ := (HB.out.set b (cel p.cells a : Int)) a (by rw [List.length_set, bytesOf_length, HSZ.out]; omega)
  generalize ((bytesOf p.cells).set b (cel p.cells a : Int)).getD a 0 = xs at ks
  generalize hxa : cel p.cells a = xa at *
  generalize (bytesOf p.cells).getD b 0 = xb at *
  clear c0 kb
  have hne : w.heap.size + 1 ≠ w7.heap.size := by have := HA6.out.lt; omega
  go_region
  have HA9 := Aside0.mk (HA7.out.upto (n := w7.heap.size) HA6.out.lt (Below.drew (Below.setCell (p := ⟨w7.heap.size, a, none⟩) (Below.setCell (p := ⟨w7.heap.size, b, none⟩) (Below.refl _ _) (Nat.le_refl _) (.int .u8 (xa : Int))) (Nat.le_refl _) (.int .u8 46))))
  have hbs : BytesAt ((w8.setCell ⟨w7.heap.size, b, none⟩ (.int .u8 (xa : Int))).setCell ⟨w7.heap.size, a, none⟩ (.int .u8 46)).drew w7.heap.size (((bytesOf p.cells).set b (xa : Int)).set a 46) := (HB.out.set b (xa : Int)).set a 46
  have kc := bytes_string hbs 64 Tryz.underlying64 (cap := grownCap w7 p.cells.size 0 5)
  rw [List.length_set, List.length_set, bytesOf_length] at kc
  have HMB := Aside0.mk (show movedB p.cells a b = strOfNums (((bytesOf p.cells).set b (xa : Int)).set a 46) by unfold movedB; rw [hxa])
  rw [← HMB.out] at kc
  clear hbs HMB HB
  generalize movedB p.cells a b = mb at *
  clear d0 d1 ka fa kb2 fb ks fs hne HXA HA7
  generalize ((w8.setCell ⟨w7.heap.size, b, none⟩ (.int .u8 (xa : Int))).setCell ⟨w7.heap.size, a, none⟩ (.int .u8 46)).drew = w9 at *
  have HA := HA9
  clear HA9 HA6
  have fp := HA.out.fp
  have fr := HA.out.fr
  have r0 := HA.out.r0
  have r1 := HA.out.r1
  have r2 := HA.out.r2
  have r3 := HA.out.r3
  have c0 := HA.out.c0
  have c1 := HA.out.c1
  have c2 := HA.out.c2
  have c3 := HA.out.c3
  have hy : (((y : Nat) : Int) == 46) = (y == 46) := by rw [Bool.eq_iff_iff, beq_iff_eq, beq_iff_eq]; omega
  have hs0 : 0 ≤ p.side := by have := HSIDE.out; omega
  have hs1 : p.side ≤ 1 := by have := HSIDE.out; omega
  cases hs : (p.side == 1)
  case false =>
    have HS1 := Aside0.mk hs
    go_upto_region 15 with (simp only [kc])
    generalize hW2 : (((w9.setCell ⟨w.heap.size, 0, none⟩ (.string mb)).setCell ⟨w.heap.size, 2, none⟩ (.int .i64 (min (p.clock + 1) 120))).setCell ⟨w.heap.size, 1, none⟩ (.int .i64 (1 - p.side))) = W2
    have k0 : W2.cell? ⟨w.heap.size, 0, none⟩ = some (.string mb) := by rw [← hW2]; simp [go_sem, c0, c1, c2, c3]
    have k1 : W2.cell? ⟨w.heap.size, 1, none⟩ = some (.int .i64 (1 - p.side)) := by rw [← hW2]; simp [go_sem, c0, c1, c2, c3]
    have k2 : W2.cell? ⟨w.heap.size, 2, none⟩ = some (.int .i64 (min (p.clock + 1) 120)) := by rw [← hW2]; simp [go_sem, c0, c1, c2, c3]
    have k3 : W2.cell? ⟨w.heap.size, 3, none⟩ = some (.int .i64 (p.full)) := by rw [← hW2]; simp [go_sem, c0, c1, c2, c3]
    have HB2 : Aside0 (Below w.heap.size w W2) := Aside0.mk (by rw [← hW2]; (repeat' (first | (with_reducible exact Below.refl _ _) | (with_reducible refine pw_below_drewN ?_ _) | (with_reducible refine below_alloc ?_ _) | (with_reducible refine Below.drew ?_) | (with_reducible refine Below.setCell ?_ ?_ _) | (simp; done))) <;> first | exact HA.out.bel | (simp; done) | (simp; omega))
    have t0 : W2.cell? ⟨w.heap.size + 1 + 1, 0, none⟩ = some (.string ByteArray.empty) := by rw [← hW2]; simp [go_sem, r0]
    have t1 : W2.cell? ⟨w.heap.size + 1 + 1, 1, none⟩ = some (.int .i64 0) := by rw [← hW2]; simp [go_sem, r1]
    have t2 : W2.cell? ⟨w.heap.size + 1 + 1, 2, none⟩ = some (.int .i64 0) := by rw [← hW2]; simp [go_sem, r2]
    have t3 : W2.cell? ⟨w.heap.size + 1 + 1, 3, none⟩ = some (.int .i64 0) := by rw [← hW2]; simp [go_sem, r3]
    have fp2 : ∀ k, W2.frozen? ⟨w.heap.size, k, none⟩ = false := fun k => by rw [← hW2]; simp [go_sem, fp]
    have fr2 : ∀ k, W2.frozen? ⟨w.heap.size + 1 + 1, k, none⟩ = false := fun k => by rw [← hW2]; simp [go_sem, fr]
    clear fp fr r0 r1 r2 r3 c0 c1 c2 c3 kc hW2
    generalize (1 - p.side) = ns at *
    generalize hmc : min (p.clock + 1) 120 = mc at k2
    generalize hmf : (p.full) = mf at k3
    have HMC := Aside0.mk hmc
    have HMF := Aside0.mk hmf
    clear hmc hmf q1 q2 q3 q4 hs0 hs1 hs
    cases hz : (y == 46)
    all_goals
      rw [hz] at hy
      have HY46 := Aside0.mk hz
      clear hz
      go_wp2_with fail
      refine bodyPost_ret (by simp [results, Tryz.results83, go_sem, t0, t1, t2, t3]; try rfl) rfl ?_
      refine ⟨?_, by (repeat' (first | (with_reducible exact Below.refl _ _) | (with_reducible refine pw_below_drewN ?_ _) | (with_reducible refine below_alloc ?_ _) | (with_reducible refine Below.drew ?_) | (with_reducible refine Below.setCell ?_ ?_ _) | (simp; done))) <;> first | exact HB2.out | (simp; done) | (simp; omega)⟩
      rw [HR.out]
      have y1 := HY46.out
      have s1 := HS1.out
      simp only [beq_iff_eq, beq_eq_false_iff_ne] at y1 s1
      simp [y1, s1, HMC.out, HMF.out] <;> exact HMC.out.symm
  case true =>
    have HS1 := Aside0.mk hs
    go_upto_region 15 with (simp only [kc])
    generalize hW2 : ((((w9.setCell ⟨w.heap.size, 0, none⟩ (.string mb)).setCell ⟨w.heap.size, 2, none⟩ (.int .i64 (min (p.clock + 1) 120))).setCell ⟨w.heap.size, 3, none⟩ (.int .i64 (min (p.full + 1) 9999))).setCell ⟨w.heap.size, 1, none⟩ (.int .i64 (1 - p.side))) = W2
    have k0 : W2.cell? ⟨w.heap.size, 0, none⟩ = some (.string mb) := by rw [← hW2]; simp [go_sem, c0, c1, c2, c3]
    have k1 : W2.cell? ⟨w.heap.size, 1, none⟩ = some (.int .i64 (1 - p.side)) := by rw [← hW2]; simp [go_sem, c0, c1, c2, c3]
    have k2 : W2.cell? ⟨w.heap.size, 2, none⟩ = some (.int .i64 (min (p.clock + 1) 120)) := by rw [← hW2]; simp [go_sem, c0, c1, c2, c3]
    have k3 : W2.cell? ⟨w.heap.size, 3, none⟩ = some (.int .i64 (min (p.full + 1) 9999)) := by rw [← hW2]; simp [go_sem, c0, c1, c2, c3]
    have HB2 : Aside0 (Below w.heap.size w W2) := Aside0.mk (by rw [← hW2]; (repeat' (first | (with_reducible exact Below.refl _ _) | (with_reducible refine pw_below_drewN ?_ _) | (with_reducible refine below_alloc ?_ _) | (with_reducible refine Below.drew ?_) | (with_reducible refine Below.setCell ?_ ?_ _) | (simp; done))) <;> first | exact HA.out.bel | (simp; done) | (simp; omega))
    have t0 : W2.cell? ⟨w.heap.size + 1 + 1, 0, none⟩ = some (.string ByteArray.empty) := by rw [← hW2]; simp [go_sem, r0]
    have t1 : W2.cell? ⟨w.heap.size + 1 + 1, 1, none⟩ = some (.int .i64 0) := by rw [← hW2]; simp [go_sem, r1]
    have t2 : W2.cell? ⟨w.heap.size + 1 + 1, 2, none⟩ = some (.int .i64 0) := by rw [← hW2]; simp [go_sem, r2]
    have t3 : W2.cell? ⟨w.heap.size + 1 + 1, 3, none⟩ = some (.int .i64 0) := by rw [← hW2]; simp [go_sem, r3]
    have fp2 : ∀ k, W2.frozen? ⟨w.heap.size, k, none⟩ = false := fun k => by rw [← hW2]; simp [go_sem, fp]
    have fr2 : ∀ k, W2.frozen? ⟨w.heap.size + 1 + 1, k, none⟩ = false := fun k => by rw [← hW2]; simp [go_sem, fr]
    clear fp fr r0 r1 r2 r3 c0 c1 c2 c3 kc hW2
    generalize (1 - p.side) = ns at *
    generalize hmc : min (p.clock + 1) 120 = mc at k2
    generalize hmf : (min (p.full + 1) 9999) = mf at k3
    have HMC := Aside0.mk hmc
    have HMF := Aside0.mk hmf
    clear hmc hmf q1 q2 q3 q4 hs0 hs1 hs
    cases hz : (y == 46)
    all_goals
      rw [hz] at hy
      have HY46 := Aside0.mk hz
      clear hz
      go_wp2_with fail
      refine bodyPost_ret (by simp [results, Tryz.results83, go_sem, t0, t1, t2, t3]; try rfl) rfl ?_
      refine ⟨?_, by (repeat' (first | (with_reducible exact Below.refl _ _) | (with_reducible refine pw_below_drewN ?_ _) | (with_reducible refine below_alloc ?_ _) | (with_reducible refine Below.drew ?_) | (with_reducible refine Below.setCell ?_ ?_ _) | (simp; done))) <;> first | exact HB2.out | (simp; done) | (simp; omega)⟩
      rw [HR.out]
      have y1 := HY46.out
      have s1 := HS1.out
      simp only [beq_iff_eq, beq_eq_false_iff_ne] at y1 s1
      simp [y1, s1, HMC.out, HMF.out] <;> exact HMC.out.symm
theorem apply_c (p : Pos) (m : Mvi) (w : World) : Calls Tryz.prog 83 #[posV p, mviV m] w (ApplyIs w p m) := by
  by_cases h1 : checkP p = 0
  · cases h2 : goodM p m
    · exact apply_bad p m w h1 h2
    · exact apply_ok p m w h1 h2
  · exact apply_no p m w h1
end Go.Proofs.YtllbkppdkldmiaaGreatDoor.K

/- Plain law: behind a move a position is right. -/
namespace Go.Proofs.YtllbkppdkldmiaaGreatDoor.K
open Go.RowKit Go.Lib Go.Proofs.YtllbkppdkldmiaaGreatDoorW.PrintWords Go.Proofs.YtllbkppdkldmiaaGreatDoor.Sp
set_option linter.unusedVariables false
/-- Something else on one square. -/
def setC (c : Nat → Nat) (n v : Nat) : Nat → Nat := fun i => if i = n then v else c i
def cntC (c : Nat → Nat) (N x : Nat) : Nat := (List.range N).countP (fun i => c i == x)
theorem cntC_succ (c : Nat → Nat) (N x : Nat) : cntC c (N + 1) x = cntC c N x + (if c N = x then 1 else 0) := by
  unfold cntC
  rw [List.range_succ, List.countP_append]
  simp [List.countP_cons]
theorem cnt_set (c : Nat → Nat) (n v x : Nat) : ∀ N, (n < N → cntC (setC c n v) N x + (if c n = x then 1 else 0) = cntC c N x + (if v = x then 1 else 0)) ∧ (N ≤ n → cntC (setC c n v) N x = cntC c N x)
  | 0 => ⟨fun h => by omega, fun _ => rfl⟩
  | N + 1 => by
    obtain ⟨h1, h2⟩ := cnt_set c n v x N
    rw [cntC_succ, cntC_succ]
    have e : setC c n v N = if N = n then v else c N := rfl
    constructor
    · intro h
      by_cases hN : N = n
      · subst hN
        rw [h2 (Nat.le_refl _), e, if_pos rfl]
        omega
      · have := h1 (by omega)
        rw [show setC c n v N = c N from if_neg hN]
        omega
    · intro h
      rw [h2 (by omega), show setC c n v N = c N from if_neg (by omega)]
theorem cntC_congr {c d : Nat → Nat} {N : Nat} (h : ∀ n, n < N → c n = d n) (x : Nat) : cntC c N x = cntC d N x := by
  unfold cntC
  exact List.countP_congr (fun i hi => by rw [h i (List.mem_range.1 hi)])
/-- The squares of a board behind a move. -/
def moveC (c : Nat → Nat) (a b : Nat) : Nat → Nat := setC (setC c b (c a)) a 46
theorem cnt_move {c : Nat → Nat} {a b : Nat} (ha : a < 90) (hb : b < 90) (hab : a ≠ b) (x : Nat) : cntC (moveC c a b) 90 x + (if c b = x then 1 else 0) = cntC c 90 x + (if 46 = x then 1 else 0) := by
  have h1 := (cnt_set (setC c b (c a)) a 46 x 90).1 ha
  have h2 := (cnt_set c b (c a) x 90).1 hb
  rw [show setC c b (c a) a = c a from if_neg hab] at h1
  unfold moveC
  omega
theorem fast_may : ∀ x ∈ letters, 0 ≤ sideN x → kindN x = 80 → ∀ a b : Fin 90, mayN x a.1 = true → pawnN (sideN x) a.1 b.1 = true → mayN x b.1 = true := by decide +kernel
theorem may_move {c : Nat → Nat} {a b : Nat} (ha : a < 90) (hb : b < 90) (hl : c a ∈ letters) (hm : mayN (c a) a = true) (h : fastN c a b = true) : mayN (c a) b = true := by
  have hs : 0 ≤ sideN (c a) := by
    unfold fastN at h
    simp only [Bool.and_eq_true, decide_eq_true_eq] at h
    exact h.1.1
  have hc : canN c a b = true := by
    unfold fastN at h
    simp only [Bool.and_eq_true] at h
    exact h.2
  have hk := kinds hs
  unfold canN at hc
  rcases hk with k | k | k | k | k | k | k
  · rw [if_pos k] at hc; simp only [Bool.and_eq_true] at hc; exact hc.2
  · rw [if_neg (by omega), if_pos k] at hc; simp only [Bool.and_eq_true] at hc; exact hc.2
  · rw [if_neg (by omega), if_neg (by omega), if_pos k] at hc; simp only [Bool.and_eq_true] at hc; exact hc.1.2
  · unfold mayN; rw [if_neg (by omega), if_neg (by omega), if_neg (by omega), if_neg (by omega), if_neg (by omega)]
  · unfold mayN; rw [if_neg (by omega), if_neg (by omega), if_neg (by omega), if_neg (by omega), if_neg (by omega)]
  · unfold mayN; rw [if_neg (by omega), if_neg (by omega), if_neg (by omega), if_neg (by omega), if_neg (by omega)]
  · rw [if_neg (by omega), if_neg (by omega), if_neg (by omega), if_neg (by omega), if_neg (by omega), if_neg (by omega)] at hc
    exact fast_may _ hl hs k ⟨a, ha⟩ ⟨b, hb⟩ hm hc
theorem cel_nums (xs : List Int) (n : Nat) (hn : n < xs.length) (h : 0 ≤ xs[n] ∧ xs[n] < 256) : cel (strOfNums xs) n = (xs[n]).toNat := by
  have hs : n < (strOfNums xs).size := by simp [strOfNums, ByteArray.size]; omega
  rw [← cel_get _ n hs]
  have e : (strOfNums xs)[n]'hs = UInt8.ofNat (xs[n]).toNat := by
    show ((xs.map fun n => UInt8.ofNat n.toNat).toArray)[n]'(by simpa using hn) = _
    simp
  rw [e]
  simp only [UInt8.toNat_ofNat']
  omega
theorem moved_size (s : ByteArray) (a b : Nat) : (movedB s a b).size = s.size := by
  have h : ∀ xs : List Int, (strOfNums xs).size = xs.length := fun xs => by simp [strOfNums, ByteArray.size]
  unfold movedB
  rw [h, List.length_set, List.length_set, bytesOf_length]
theorem moved_cel {s : ByteArray} {a b n : Nat} (ha : a < s.size) (hb : b < s.size) (hn : n < s.size) : cel (movedB s a b) n = moveC (cel s) a b n := by
  have hl : (((bytesOf s).set b (cel s a)).set a 46).length = s.size := by rw [List.length_set, List.length_set, bytesOf_length]
  have hg : (((bytesOf s).set b (cel s a)).set a 46)[n]'(by omega) = (moveC (cel s) a b n : Int) := by
    rw [List.getElem_set]
    unfold moveC setC
    by_cases h1 : n = a
    · rw [if_pos h1.symm, if_pos h1]; rfl
    · rw [if_neg (Ne.symm h1), if_neg h1, List.getElem_set]
      by_cases h2 : n = b
      · rw [if_pos h2.symm, if_pos h2]
      · rw [if_neg (Ne.symm h2), if_neg h2]
        have := bytes_getD s n hn
        rw [List.getD_eq_getElem?_getD, List.getElem?_eq_getElem (by rw [bytesOf_length]; exact hn)] at this
        exact this
  have hlt : moveC (cel s) a b n < 256 := by
    unfold moveC setC
    split
    · omega
    · split <;> exact cel_lt _ _
  unfold movedB
  rw [cel_nums _ n (by omega) (by rw [hg]; omega), hg]
  simp
end Go.Proofs.YtllbkppdkldmiaaGreatDoor.K

/- Plain law: behind a move a position is right; its pieces. -/
namespace Go.Proofs.YtllbkppdkldmiaaGreatDoor.K
open Go.RowKit Go.Lib Go.Proofs.YtllbkppdkldmiaaGreatDoorW.PrintWords Go.Proofs.YtllbkppdkldmiaaGreatDoor.Sp
set_option linter.unusedVariables false
theorem checkP_parts {p : Pos} (h : checkP p = 0) : argOk p = true ∧ (∀ x ∈ pieces14, badX p.cells x = false) ∧ (∀ n, n < 90 → cel p.cells n = 46 ∨ mayN (cel p.cells n) n = true) := by
  have ha := checkP_board h
  unfold checkP at h
  rw [if_neg (by rw [ha]; simp)] at h
  cases h1 : pieces14.any (badX p.cells)
  · rw [h1] at h
    cases h2 : rightX p.cells 90
    · rw [h2] at h; simp at h
    · refine ⟨ha, fun x hx => ?_, fun n hn => ?_⟩
      · rw [List.any_eq_false] at h1
        simpa using h1 x hx
      · unfold rightX at h2
        rw [List.all_eq_true] at h2
        have := h2 n (List.mem_range.2 hn)
        simp only [Bool.or_eq_true, beq_iff_eq] at this
        exact this
  · rw [h1] at h; simp at h
theorem checkP_mk {p : Pos} (ha : argOk p = true) (hb : ∀ x ∈ pieces14, badX p.cells x = false) (hr : ∀ n, n < 90 → cel p.cells n = 46 ∨ mayN (cel p.cells n) n = true) : checkP p = 0 := by
  unfold checkP
  rw [if_neg (by rw [ha]; simp), if_neg, if_neg]
  · have : rightX p.cells 90 = true := by
      unfold rightX
      rw [List.all_eq_true]
      intro n hn
      simp only [Bool.or_eq_true, beq_iff_eq]
      exact hr n (List.mem_range.1 hn)
    simp [this]
  · have : pieces14.any (badX p.cells) = false := by
      rw [List.any_eq_false]
      intro x hx
      simp [hb x hx]
    simp [this]
/-- What is known of a move of a position. -/
theorem move_parts {p : Pos} {a b : Nat} (hck : checkP p = 0) (ha : a < 90) (hb : b < 90) (hs : sideN (cel p.cells a) = p.side) (hf : fastN (cel p.cells) a b = true) :
    atS p.cells (a : Int) = cel p.cells a ∧ atS p.cells (b : Int) = cel p.cells b ∧ allS p.cells (a : Int) = allN (cel p.cells) a ∧ a ≠ b ∧ 0 ≤ sideN (cel p.cells a) := by
  have hbd := (argOk_yes (checkP_parts hck).1).1
  have hf' := hf
  unfold fastN at hf'
  simp only [Bool.and_eq_true, decide_eq_true_eq, bne_iff_ne, ne_eq] at hf'
  refine ⟨?_, ?_, ?_, ?_, hf'.1.1⟩
  · unfold atS; rw [if_pos ⟨hbd, by omega, by omega⟩]; rfl
  · unfold atS; rw [if_pos ⟨hbd, by omega, by omega⟩]; rfl
  · unfold allS; rw [if_pos ⟨hbd, by omega, by omega⟩]; rfl
  · rintro rfl; exact hf'.1.2 rfl
theorem good_move {p : Pos} {a b : Nat} (hck : checkP p = 0) (ha : a < 90) (hb : b < 90) (hs : sideN (cel p.cells a) = p.side) (hf : fastN (cel p.cells) a b = true) : goodM p ⟨a, b⟩ = (kindN (cel p.cells b) != 75) := by
  obtain ⟨h1, h2, h3, _, _⟩ := move_parts hck ha hb hs hf
  unfold goodM
  simp only
  rw [h1, h2, h3, hs]
  have : (allN (cel p.cells) a).any (fun n => (n : Int) == (b : Int)) = true := by
    rw [List.any_eq_true]
    exact ⟨b, List.mem_filter.2 ⟨List.mem_range.2 hb, hf⟩, by simp⟩
  rw [this]
  simp
theorem right_after {p : Pos} {a b : Nat} (hck : checkP p = 0) (ha : a < 90) (hb : b < 90) (hs : sideN (cel p.cells a) = p.side) (hf : fastN (cel p.cells) a b = true) (hk : kindN (cel p.cells b) ≠ 75) (ck fl : Int) (hc : 0 ≤ ck ∧ ck ≤ 120) (hfl : 1 ≤ fl ∧ fl ≤ 9999) :
    checkP ⟨movedB p.cells a b, 1 - p.side, ck, fl⟩ = 0 ∧ isBoard (movedB p.cells a b) = true ∧ cntX (movedB p.cells a b) 90 46 = cntX p.cells 90 46 + (if cel p.cells b = 46 then 0 else 1) := by
  obtain ⟨hao, hbad, hri⟩ := checkP_parts hck
  obtain ⟨hbd, hsd, _⟩ := argOk_yes hao
  obtain ⟨_, _, _, hab, h0⟩ := move_parts hck ha hb hs hf
  have hsz := board_size hbd
  have hcel : ∀ n, n < 90 → cel (movedB p.cells a b) n = moveC (cel p.cells) a b n := fun n hn => moved_cel (by omega) (by omega) (by omega)
  have hlet : ∀ n, n < 90 → moveC (cel p.cells) a b n ∈ letters := by
    intro n hn
    unfold moveC setC
    split
    · decide
    · split
      · exact board_cell hbd ha
      · exact board_cell hbd hn
  have hcb : ∀ x ∈ letters, cellB x = true := by decide
  have hmb : isBoard (movedB p.cells a b) = true := (board_iff _ (by rw [moved_size, hsz])).2 (fun n hn => by rw [hcel n hn]; exact hcb _ (hlet n hn))
  have hcnt : ∀ x, cntX (movedB p.cells a b) 90 x + (if cel p.cells b = x then 1 else 0) = cntX p.cells 90 x + (if 46 = x then 1 else 0) := by
    intro x
    have h := cnt_move (c := cel p.cells) ha hb hab x
    have e : cntX (movedB p.cells a b) 90 x = cntC (moveC (cel p.cells) a b) 90 x := cntC_congr hcel x
    rw [e]
    exact h
  refine ⟨checkP_mk ?_ ?_ ?_, hmb, ?_⟩
  · unfold argOk
    simp only
    rw [hmb]
    simp only [Bool.true_and, decide_eq_true_eq]
    omega
  · intro x hx
    have h := hbad x hx
    have hc := hcnt x
    have hx46 : ∀ x ∈ pieces14, (46 : Nat) ≠ x := by decide
    rw [if_neg (hx46 x hx)] at hc
    unfold badX at h ⊢
    simp only [Bool.or_eq_false_iff, decide_eq_false_iff_not, Bool.and_eq_false_iff, beq_eq_false_iff_ne, bne_eq_false_iff_eq] at h ⊢
    obtain ⟨h1, h2⟩ := h
    refine ⟨by split at hc <;> omega, ?_⟩
    rcases h2 with h2 | h2
    · exact .inl h2
    · by_cases h3 : cel p.cells b = x
      · left
        rw [← h3]
        exact hk
      · right
        rw [if_neg h3] at hc
        omega
  · intro n hn
    simp only
    rw [hcel n hn]
    unfold moveC setC
    by_cases h1 : n = a
    · rw [if_pos h1]; exact .inl rfl
    · rw [if_neg h1]
      by_cases h2 : n = b
      · rw [if_pos h2, h2]
        rcases hri a ha with h3 | h3
        · rw [h3] at h0; exact absurd h0 (by decide)
        · exact .inr (may_move ha hb (board_cell hbd ha) h3 hf)
      · rw [if_neg h2]; exact hri n hn
  · have := hcnt 46
    rw [if_pos rfl] at this
    split at this
    · rename_i h; rw [if_pos h]; omega
    · rename_i h; rw [if_neg h]; omega
/-- One move stands ahead of another. -/
def aheadM (m n : Mv) : Prop := m.1 < n.1 ∨ (m.1 = n.1 ∧ m.2 < n.2)
theorem from_pair (s : ByteArray) (side : Int) (q : Nat → Bool) (a : Nat) : (fromM s side q a).Pairwise aheadM ∧ ∀ m ∈ fromM s side q a, m.1 = a := by
  unfold fromM
  split
  · constructor
    · rw [List.pairwise_map]
      have h : ((allN (cel s) a).filter (fun b => q (cel s b))).Pairwise (· < ·) := by
        unfold allN
        exact (List.pairwise_lt_range.filter _).filter _
      exact h.imp (fun h => .inr ⟨rfl, h⟩)
    · intro m hm
      obtain ⟨b, _, rfl⟩ := List.mem_map.1 hm
      rfl
  · exact ⟨List.Pairwise.nil, fun m hm => by simp at hm⟩
theorem gath_pair (s : ByteArray) (side : Int) (q : Nat → Bool) : ∀ n, (gathM s side q n).Pairwise aheadM ∧ ∀ m ∈ gathM s side q n, m.1 < n
  | 0 => ⟨by simp [gathM], fun m hm => by simp [gathM] at hm⟩
  | n + 1 => by
    obtain ⟨h1, h2⟩ := gath_pair s side q n
    obtain ⟨h3, h4⟩ := from_pair s side q n
    rw [gathM_succ]
    refine ⟨List.pairwise_append.2 ⟨h1, h3, fun x hx y hy => .inl (by rw [h4 y hy]; exact h2 x hx)⟩, fun m hm => ?_⟩
    rcases List.mem_append.1 hm with h | h
    · have := h2 m h; omega
    · rw [h4 m h]; omega
theorem gathP_pair (p : Pos) (q : Nat → Bool) : (gathP p q).Pairwise aheadM := by
  unfold gathP
  split
  · exact (gath_pair _ _ _ 90).1
  · exact List.Pairwise.nil
end Go.Proofs.YtllbkppdkldmiaaGreatDoor.K

/- Walks: the reference's Moved. -/
namespace Go.Proofs.YtllbkppdkldmiaaGreatDoor.K
open Go.RowKit Go.Lib Go.Proofs.YtllbkppdkldmiaaGreatDoorW.PrintWords Go.Proofs.YtllbkppdkldmiaaGreatDoor.Sp
set_option linter.unusedVariables false
set_option linter.unusedSimpArgs false
attribute [local go_sem] cel_get   -- for this text's walks alone
set_option maxRecDepth 100000 in
set_option maxHeartbeats 4000000 in
theorem rmoved_c (s : ByteArray) (hs : s.size = 90) (a b : Nat) (ha : a < 90) (hb : b < 90) (w : World) : Calls Tryz.prog 87 #[.string s, .agg #[.int .i64 (a : Int), .int .i64 (b : Int)]] w fun e w' => e = .returned (.string (movedB s a b)) ∧ Below w.heap.size w w' := by
  have hu2 := Tryz.underlying49
  have HSZ := Aside0.mk hs
  have ha1 : (a : Int) < 90 := by omega
  have hb1 : (b : Int) < 90 := by omega
  have HAB := Aside0.mk (And.intro ha hb)
  clear hs ha hb
  go_enter Tryz.func87, Tryz.ntmps87
  have d0 : (w.alloc (.cells #[.int .i64 (a : Int), .int .i64 (b : Int)] 49)).cell? ⟨w.heap.size, 0, none⟩ = some (.int .i64 (a : Int)) := by simp [World.cell?_alloc_at]
  have d1 : (w.alloc (.cells #[.int .i64 (a : Int), .int .i64 (b : Int)] 49)).cell? ⟨w.heap.size, 1, none⟩ = some (.int .i64 (b : Int)) := by simp [World.cell?_alloc_at]
  have HW := Aside0.mk (below_alloc (Below.refl w.heap.size w) (.cells #[.int .i64 (a : Int), .int .i64 (b : Int)] 49))
  have hz0 : (w.alloc (.cells #[.int .i64 (a : Int), .int .i64 (b : Int)] 49)).heap.size = w.heap.size + 1 := by simp
  go_upto_region 1 with fail
  generalize w.alloc (.cells #[.int .i64 (a : Int), .int .i64 (b : Int)] 49) = W1 at *
  have kb := fun W => print_bytes (P := Tryz.prog) 9 64 5 Tryz.underlying9 Tryz.underlying64 Tryz.underlying5 s W
  go_wp2_with (simp only [kb])
  have HB := Aside0.mk (bytes_at_new W1 5 s)
  have HBW := bytes_below (Below.refl W1.heap.size W1) (Nat.le_refl _) 5 s
  have HLT := Aside0.mk (Lib.bytesWorld_size W1 5 s)
  have d0' := below_cell HBW _ _ _ d0
  have d1' := below_cell HBW _ _ _ d1
  have HW8 := Aside0.mk (below_go HW.out HBW)
  clear d0 d1 HBW
  generalize Lib.bytesWorld W1 5 s = w8 at *
  have hsz : (s.size : Int) = 90 := by rw [HSZ.out]; rfl
  obtain ⟨ka, fa⟩ := HB.out a (by rw [bytesOf_length, HSZ.out]; exact HAB.out.1)
  obtain ⟨kb2, fb⟩ := HB.out b (by rw [bytesOf_length, HSZ.out]; exact HAB.out.2)
  have HXA := Aside0.mk (show (bytesOf s).getD a 0 = (cel s a : Int) from bytes_getD s a (by rw [HSZ.out]; exact HAB.out.1))
  rw [HXA.out] at ka
  obtain ⟨ks, fs⟩ := (HB.out.set b (cel s a : Int)) a (by rw [List.length_set, bytesOf_length, HSZ.out]; exact HAB.out.1)
  generalize ((bytesOf s).set b (cel s a : Int)).getD a 0 = xs at ks
  generalize hxa : cel s a = xa at *
  generalize (bytesOf s).getD b 0 = xb at *
  have HB' := Aside0.mk (show BytesAt w8 (w.heap.size + 1) (bytesOf s) by rw [← hz0]; exact HB.out)
  rw [hz0] at ka fa kb2 fb ks fs
  have HLT' := Aside0.mk (show w.heap.size + 1 < w8.heap.size by rw [← hz0]; have := HLT.out; omega)
  have hne : w.heap.size + 1 ≠ w.heap.size := by omega
  clear kb HB HLT hz0
  go_region
  have hbs : BytesAt ((w8.setCell ⟨w.heap.size + 1, b, none⟩ (.int .u8 (xa : Int))).setCell ⟨w.heap.size + 1, a, none⟩ (.int .u8 46)).drew (w.heap.size + 1) (((bytesOf s).set b (xa : Int)).set a 46) := (HB'.out.set b (xa : Int)).set a 46
  have kc := bytes_string hbs 64 Tryz.underlying64 (cap := grownCap W1 s.size 0 5)
  rw [List.length_set, List.length_set, bytesOf_length] at kc
  have HMB := Aside0.mk (show movedB s a b = strOfNums (((bytesOf s).set b (xa : Int)).set a 46) by unfold movedB; rw [hxa])
  rw [← HMB.out] at kc
  have HBZ := Aside0.mk (show Below w.heap.size w ((w8.setCell ⟨w.heap.size + 1, b, none⟩ (.int .u8 (xa : Int))).setCell ⟨w.heap.size + 1, a, none⟩ (.int .u8 46)).drew from by (repeat' (first | (with_reducible exact Below.refl _ _) | (with_reducible refine pw_below_drewN ?_ _) | (with_reducible refine below_alloc ?_ _) | (with_reducible refine Below.drew ?_) | (with_reducible refine Below.setCell ?_ ?_ _) | (simp; done))) <;> first | exact HW8.out | (simp; done) | (simp; omega))
  clear hbs HMB HB'
  generalize hmb : movedB s a b = mb at *
  have HM2 := Aside0.mk hmb
  clear hmb
  go_wp2_with (simp only [kc])
  go_ret
  refine ⟨?_, HBZ.out⟩
  show Ending.returned (.string mb) = Ending.returned (.string (movedB s a b))
  rw [HM2.out]
/-! ### Apply -/
theorem gtr89 (x : Int) : decide (89 < x) = !decide (x < 90) := by
  by_cases h : x < 90
  · rw [decide_eq_true h, decide_eq_false (by omega)]; rfl
  · rw [decide_eq_false h, decide_eq_true (by omega)]; rfl
set_option maxRecDepth 100000 in
set_option maxHeartbeats 4000000 in
theorem rapply_no (p : Pos) (hmx : p.cells.size ≤ maxLen) (m : Mvi) (w : World) (hck : checkP p ≠ 0) : Calls Tryz.prog 50 #[posV p, mviV m] w (ApplyIs w p m) := by
  have HCK := Aside0.mk (fun W => rcheck_c p hmx W)
  have hu := Tryz.underlying33
  have hu2 := Tryz.underlying49
  have HR := Aside0.mk (show applyP p m = (zeroP, 0, checkP p) by unfold applyP; rw [if_pos hck])
  have h2 : (checkP p != 0) = true := by simpa using hck
  clear hck hmx
  generalize checkP p = ck at *
  go_enter Tryz.func50, Tryz.ntmps50
  go_wp2_with fail
  refine (HCK.out _).mono ?_
  rintro e w1 ⟨rfl, hb⟩
  have HA := Aside0.mk ((apat_new w p m).below hb)
  clear hb
  have fr := HA.out.fr
  have r0 := HA.out.r0
  have r1 := HA.out.r1
  have r2 := HA.out.r2
  have r3 := HA.out.r3
  go_wp2_with fail
  refine bodyPost_ret (by simp [results, Tryz.results50, go_sem, r0, r1, r2, r3]; try rfl) rfl ?_
  exact ⟨by rw [HR.out]; rfl, by (repeat' (first | (with_reducible exact Below.refl _ _) | (with_reducible refine pw_below_drewN ?_ _) | (with_reducible refine below_alloc ?_ _) | (with_reducible refine Below.drew ?_) | (with_reducible refine Below.setCell ?_ ?_ _) | (simp; done))) <;> first | exact HA.out.bel | (simp; done) | (simp; omega)⟩
/-- What the reference asks of a move. -/
def okR (p : Pos) (m : Mvi) : Prop := (0 ≤ m.frm ∧ m.frm < 90) ∧ (0 ≤ m.dest ∧ m.dest < 90) ∧ sideN (cel p.cells m.frm.toNat) = p.side ∧ fastN (cel p.cells) m.frm.toNat m.dest.toNat = true ∧ kindN (cel p.cells m.dest.toNat) ≠ 75
theorem ok_good {p : Pos} {m : Mvi} (hck : checkP p = 0) : goodM p m = true ↔ okR p m := by
  have hao := checkP_board hck
  obtain ⟨hbd, hsd, _⟩ := argOk_yes hao
  constructor
  · intro h
    obtain ⟨h1, h2, h3, hb, hf, hd⟩ := good_parts h
    obtain ⟨n, hn, he⟩ := List.any_eq_true.1 h3
    rw [beq_iff_eq] at he
    unfold allS at hn
    rw [if_pos ⟨hb, hf⟩] at hn
    have hx : atS p.cells m.frm = cel p.cells m.frm.toNat := by unfold atS; rw [if_pos ⟨hb, hf⟩]
    have hy : atS p.cells m.dest = cel p.cells m.dest.toNat := by unfold atS; rw [if_pos ⟨hb, hd⟩]
    rw [hx, beq_iff_eq] at h1
    rw [hy, beq_eq_false_iff_ne] at h2
    have hnn : m.dest.toNat = n := by omega
    have hn' : n ∈ (List.range 90).filter (fastN (cel p.cells) m.frm.toNat) := hn
    refine ⟨hf, hd, h1, ?_, h2⟩
    rw [hnn]
    exact (List.mem_filter.1 hn').2
  · rintro ⟨hf, hd, h1, h2, h3⟩
    have hx : atS p.cells m.frm = cel p.cells m.frm.toNat := by unfold atS; rw [if_pos ⟨hbd, hf⟩]
    have hy : atS p.cells m.dest = cel p.cells m.dest.toNat := by unfold atS; rw [if_pos ⟨hbd, hd⟩]
    have hl : allS p.cells m.frm = allN (cel p.cells) m.frm.toNat := by unfold allS; rw [if_pos ⟨hbd, hf⟩]
    unfold goodM
    rw [hx, hy, hl, h1]
    simp only [beq_self_eq_true, Bool.true_and, Bool.and_eq_true, bne_iff_ne, ne_eq]
    refine ⟨h3, List.any_eq_true.2 ⟨m.dest.toNat, List.mem_filter.2 ⟨List.mem_range.2 (by omega), h2⟩, ?_⟩⟩
    rw [beq_iff_eq]; omega
set_option maxRecDepth 100000 in
set_option maxHeartbeats 4000000 in
theorem rapply_bad (p : Pos) (m : Mvi) (w : World) (hck : checkP p = 0) (hg : ¬ okR p m) : Calls Tryz.prog 50 #[posV p, mviV m] w (ApplyIs w p m) := by
  obtain ⟨hbd, hsd, _⟩ := argOk_yes (checkP_board hck)
  have hsz := board_size hbd
  have HCK := Aside0.mk (fun W => rcheck_c p (by rw [hsz]; unfold maxLen; omega) W)
  rw [hck] at HCK
  have hu := Tryz.underlying33
  have hu2 := Tryz.underlying49
  have hgf : goodM p m = false := by
    cases h : goodM p m
    · rfl
    · exact absurd ((ok_good hck).1 h) hg
  have HR := Aside0.mk (show applyP p m = (zeroP, 0, 7) by unfold applyP; rw [if_neg (by simpa using hck), if_pos hgf])
  have HNO := Aside0.mk hg
  have HSZ := Aside0.mk hsz
  have HBD := Aside0.mk hbd
  clear hck hg hgf hbd hsd hsz
  obtain ⟨m1, m2⟩ := m
  have HQ := Aside0.mk (fun (n : Nat) W => rside_c (cel p.cells n) (cel_lt _ _) W)
  have HKQ := Aside0.mk (fun (n : Nat) W => rkind_c (cel p.cells n) (cel_lt _ _) W)
  have HFQ := Aside0.mk (fun (a b : Nat) ha hb W => rfast_c p.cells HBD.out a b ha hb W)
  by_cases g1 : m1 < 0
  · clear HNO
    go_enter Tryz.func50, Tryz.ntmps50
    go_wp2_with fail
    refine (HCK.out _).mono ?_
    rintro e w1 ⟨rfl, hb⟩
    have HA := Aside0.mk ((apat_new w p ⟨m1, m2⟩).below hb)
    clear hb
    have d0 := HA.out.d0
    have d1 := HA.out.d1
    have c0 := HA.out.c0
    have c1 := HA.out.c1
    go_wp2_with fail
    go_quiet (fail)
    have HA1 := Aside0.mk (HA.out.below (pw_below_drewN (Below.refl _ _) nq))
    have fr := HA1.out.fr
    have r0 := HA1.out.r0
    have r1 := HA1.out.r1
    have r2 := HA1.out.r2
    have r3 := HA1.out.r3
    generalize w1.drewN nq = w5 at *
    go_wp2_with fail
    refine bodyPost_ret (by simp [results, Tryz.results50, go_sem, r0, r1, r2, r3]; try rfl) rfl ?_
    exact ⟨by rw [HR.out]; rfl, by (repeat' (first | (with_reducible exact Below.refl _ _) | (with_reducible refine pw_below_drewN ?_ _) | (with_reducible refine below_alloc ?_ _) | (with_reducible refine Below.drew ?_) | (with_reducible refine Below.setCell ?_ ?_ _) | (simp; done))) <;> first | exact HA1.out.bel | (simp; done) | (simp; omega)⟩
  have k1 : decide (m1 < 0) = false := decide_eq_false g1
  by_cases g2 : 89 < m1
  · clear HNO g1
    go_enter Tryz.func50, Tryz.ntmps50
    go_wp2_with fail
    refine (HCK.out _).mono ?_
    rintro e w1 ⟨rfl, hb⟩
    have HA := Aside0.mk ((apat_new w p ⟨m1, m2⟩).below hb)
    clear hb
    have d0 := HA.out.d0
    have d1 := HA.out.d1
    have c0 := HA.out.c0
    have c1 := HA.out.c1
    go_wp2_with fail
    go_quiet (fail)
    have HA1 := Aside0.mk (HA.out.below (pw_below_drewN (Below.refl _ _) nq))
    have fr := HA1.out.fr
    have r0 := HA1.out.r0
    have r1 := HA1.out.r1
    have r2 := HA1.out.r2
    have r3 := HA1.out.r3
    generalize w1.drewN nq = w5 at *
    go_wp2_with fail
    refine bodyPost_ret (by simp [results, Tryz.results50, go_sem, r0, r1, r2, r3]; try rfl) rfl ?_
    exact ⟨by rw [HR.out]; rfl, by (repeat' (first | (with_reducible exact Below.refl _ _) | (with_reducible refine pw_below_drewN ?_ _) | (with_reducible refine below_alloc ?_ _) | (with_reducible refine Below.drew ?_) | (with_reducible refine Below.setCell ?_ ?_ _) | (simp; done))) <;> first | exact HA1.out.bel | (simp; done) | (simp; omega)⟩
  have k2 : decide (89 < m1) = false := decide_eq_false g2
  by_cases g3 : m2 < 0
  · clear HNO g1 g2
    go_enter Tryz.func50, Tryz.ntmps50
    go_wp2_with fail
    refine (HCK.out _).mono ?_
    rintro e w1 ⟨rfl, hb⟩
    have HA := Aside0.mk ((apat_new w p ⟨m1, m2⟩).below hb)
    clear hb
    have d0 := HA.out.d0
    have d1 := HA.out.d1
    have c0 := HA.out.c0
    have c1 := HA.out.c1
    go_wp2_with fail
    go_quiet (fail)
    have HA1 := Aside0.mk (HA.out.below (pw_below_drewN (Below.refl _ _) nq))
    have fr := HA1.out.fr
    have r0 := HA1.out.r0
    have r1 := HA1.out.r1
    have r2 := HA1.out.r2
    have r3 := HA1.out.r3
    generalize w1.drewN nq = w5 at *
    go_wp2_with fail
    refine bodyPost_ret (by simp [results, Tryz.results50, go_sem, r0, r1, r2, r3]; try rfl) rfl ?_
    exact ⟨by rw [HR.out]; rfl, by (repeat' (first | (with_reducible exact Below.refl _ _) | (with_reducible refine pw_below_drewN ?_ _) | (with_reducible refine below_alloc ?_ _) | (with_reducible refine Below.drew ?_) | (with_reducible refine Below.setCell ?_ ?_ _) | (simp; done))) <;> first | exact HA1.out.bel | (simp; done) | (simp; omega)⟩
  have k3 : decide (m2 < 0) = false := decide_eq_false g3
  by_cases g4 : 89 < m2
  · clear HNO g1 g2 g3
    go_enter Tryz.func50, Tryz.ntmps50
    go_wp2_with fail
    refine (HCK.out _).mono ?_
    rintro e w1 ⟨rfl, hb⟩
    have HA := Aside0.mk ((apat_new w p ⟨m1, m2⟩).below hb)
    clear hb
    have d0 := HA.out.d0
    have d1 := HA.out.d1
    have c0 := HA.out.c0
    have c1 := HA.out.c1
    go_wp2_with fail
    go_quiet (fail)
    have HA1 := Aside0.mk (HA.out.below (pw_below_drewN (Below.refl _ _) nq))
    have fr := HA1.out.fr
    have r0 := HA1.out.r0
    have r1 := HA1.out.r1
    have r2 := HA1.out.r2
    have r3 := HA1.out.r3
    generalize w1.drewN nq = w5 at *
    go_wp2_with fail
    refine bodyPost_ret (by simp [results, Tryz.results50, go_sem, r0, r1, r2, r3]; try rfl) rfl ?_
    exact ⟨by rw [HR.out]; rfl, by (repeat' (first | (with_reducible exact Below.refl _ _) | (with_reducible refine pw_below_drewN ?_ _) | (with_reducible refine below_alloc ?_ _) | (with_reducible refine Below.drew ?_) | (with_reducible refine Below.setCell ?_ ?_ _) | (simp; done))) <;> first | exact HA1.out.bel | (simp; done) | (simp; omega)⟩
  have k4 : decide (89 < m2) = false := decide_eq_false g4
  obtain ⟨a, rfl⟩ : ∃ a : Nat, m1 = a := ⟨m1.toNat, by omega⟩
  obtain ⟨b, rfl⟩ : ∃ b : Nat, m2 = b := ⟨m2.toNat, by omega⟩
  have ha : (a : Int) < (p.cells.size : Int) := by rw [HSZ.out]; omega
  have hb1 : (b : Int) < (p.cells.size : Int) := by rw [HSZ.out]; omega
  have HS1 := Aside0.mk (HQ.out a)
  have HK1 := Aside0.mk (HKQ.out b)
  have HF1 := Aside0.mk (HFQ.out a b (by omega) (by omega))
  have hno := HNO.out
  unfold okR at hno
  simp only [Int.toNat_natCast] at hno
  have q1 : ((kindN (cel p.cells b) : Int) == 75) = (kindN (cel p.cells b) == 75) := by rw [Bool.eq_iff_iff, beq_iff_eq, beq_iff_eq]; omega
  generalize hsd : sideN (cel p.cells a) = sd at *
  generalize hkd : kindN (cel p.cells b) = kd at *
  generalize fastN (cel p.cells) a b = ff at *
  clear HQ HKQ HFQ HNO hsd hkd
  cases h1 : (sd != p.side)
  case true =>
    clear g1 g2 g3 g4 hno q1
    go_enter Tryz.func50, Tryz.ntmps50
    go_wp2_with fail
    refine (HCK.out _).mono ?_
    rintro e w1 ⟨rfl, hb⟩
    have HA := Aside0.mk ((apat_new w p ⟨(a : Int), (b : Int)⟩).below hb)
    clear hb
    have d0 := HA.out.d0
    have d1 := HA.out.d1
    have c0 := HA.out.c0
    have c1 := HA.out.c1
    go_wp2_with fail
    go_quiet (first | (go_at_call 34; exact Calls.quiet_of_same (HS1.out _)))
    have HA1 := Aside0.mk (HA.out.below (pw_below_drewN (Below.refl _ _) nq))
    have fr := HA1.out.fr
    have r0 := HA1.out.r0
    have r1 := HA1.out.r1
    have r2 := HA1.out.r2
    have r3 := HA1.out.r3
    generalize w1.drewN nq = w5 at *
    go_wp2_with fail
    refine bodyPost_ret (by simp [results, Tryz.results50, go_sem, r0, r1, r2, r3]; try rfl) rfl ?_
    exact ⟨by rw [HR.out]; rfl, by (repeat' (first | (with_reducible exact Below.refl _ _) | (with_reducible refine pw_below_drewN ?_ _) | (with_reducible refine below_alloc ?_ _) | (with_reducible refine Below.drew ?_) | (with_reducible refine Below.setCell ?_ ?_ _) | (simp; done))) <;> first | exact HA1.out.bel | (simp; done) | (simp; omega)⟩
  case false =>
  cases ff
  case false =>
    clear g1 g2 g3 g4 hno q1
    go_enter Tryz.func50, Tryz.ntmps50
    go_wp2_with fail
    refine (HCK.out _).mono ?_
    rintro e w1 ⟨rfl, hb⟩
    have HA := Aside0.mk ((apat_new w p ⟨(a : Int), (b : Int)⟩).below hb)
    clear hb
    have d0 := HA.out.d0
    have d1 := HA.out.d1
    have c0 := HA.out.c0
    have c1 := HA.out.c1
    go_wp2_with fail
    go_quiet (first | (go_at_call 34; exact Calls.quiet_of_same (HS1.out _)) | (go_at_call 59; exact Calls.quiet_of_same (HF1.out _)))
    have HA1 := Aside0.mk (HA.out.below (pw_below_drewN (Below.refl _ _) nq))
    have fr := HA1.out.fr
    have r0 := HA1.out.r0
    have r1 := HA1.out.r1
    have r2 := HA1.out.r2
    have r3 := HA1.out.r3
    generalize w1.drewN nq = w5 at *
    go_wp2_with fail
    refine bodyPost_ret (by simp [results, Tryz.results50, go_sem, r0, r1, r2, r3]; try rfl) rfl ?_
    exact ⟨by rw [HR.out]; rfl, by (repeat' (first | (with_reducible exact Below.refl _ _) | (with_reducible refine pw_below_drewN ?_ _) | (with_reducible refine below_alloc ?_ _) | (with_reducible refine Below.drew ?_) | (with_reducible refine Below.setCell ?_ ?_ _) | (simp; done))) <;> first | exact HA1.out.bel | (simp; done) | (simp; omega)⟩
  case true =>
    have hk : kd = 75 := by
      by_cases h : kd = 75
      · exact h
      · exact absurd ⟨⟨by omega, by omega⟩, ⟨by omega, by omega⟩, by simpa using h1, rfl, h⟩ hno
    subst hk
    clear g1 g2 g3 g4 hno q1
    go_enter Tryz.func50, Tryz.ntmps50
    go_wp2_with fail
    refine (HCK.out _).mono ?_
    rintro e w1 ⟨rfl, hb⟩
    have HA := Aside0.mk ((apat_new w p ⟨(a : Int), (b : Int)⟩).below hb)
    clear hb
    have d0 := HA.out.d0
    have d1 := HA.out.d1
    have c0 := HA.out.c0
    have c1 := HA.out.c1
    go_wp2_with fail
    go_quiet (first | (go_at_call 34; exact Calls.quiet_of_same (HS1.out _)) | (go_at_call 59; exact Calls.quiet_of_same (HF1.out _)) | (go_at_call 35; exact Calls.quiet_of_same (HK1.out _)))
    have HA1 := Aside0.mk (HA.out.below (pw_below_drewN (Below.refl _ _) nq))
    have fr := HA1.out.fr
    have r0 := HA1.out.r0
    have r1 := HA1.out.r1
    have r2 := HA1.out.r2
    have r3 := HA1.out.r3
    generalize w1.drewN nq = w5 at *
    go_wp2_with fail
    refine bodyPost_ret (by simp [results, Tryz.results50, go_sem, r0, r1, r2, r3]; try rfl) rfl ?_
    exact ⟨by rw [HR.out]; rfl, by (repeat' (first | (with_reducible exact Below.refl _ _) | (with_reducible refine pw_below_drewN ?_ _) | (with_reducible refine below_alloc ?_ _) | (with_reducible refine Below.drew ?_) | (with_reducible refine Below.setCell ?_ ?_ _) | (simp; done))) <;> first | exact HA1.out.bel | (simp; done) | (simp; omega)⟩
end Go.Proofs.YtllbkppdkldmiaaGreatDoor.K

/- Plain law: the moves that may be made. -/
namespace Go.Proofs.YtllbkppdkldmiaaGreatDoor.K
open Go.RowKit Go.Lib Go.Proofs.YtllbkppdkldmiaaGreatDoorW.PrintWords Go.Proofs.YtllbkppdkldmiaaGreatDoor.Sp
set_option linter.unusedVariables false
set_option linter.unusedSimpArgs false
abbrev mviOf (m : Mv) : Mvi := ⟨m.1, m.2⟩
/-- Does a move leave a position that is right? -/
def safeS (p : Pos) (m : Mvi) : Bool := (applyP p m).2.2 == 0 && wellS (applyP p m).1 == 0
/-- The moves that may be made. -/
def legalL (p : Pos) : List Mv := if wellS p = 0 then (gathP p (fun _ => true)).filter (fun m => safeS p (mviOf m)) else []
/-- The reference's. -/
def safeR (s : ByteArray) (a : Int) : Bool := !facS s && !inS s a
def mayR (s : ByteArray) (a : Int) (m : Mv) : Bool := kindN (cel s m.2) != 75 && safeR (movedB s m.1 m.2) a
def legalR (s : ByteArray) (a : Int) : List Mv := (gathM s a (fun _ => true) 90).filter (mayR s a)
/-- Behind a move that may be made; what was taken; or why there is none. -/
def makeP (p : Pos) (m : Mvi) : Pos × Nat × Int := if wellS p ≠ 0 then (zeroP, 0, wellS p) else if safeS p m = false then (zeroP, 0, 7) else applyP p m
/-- Is there an end? -/
def endS (p : Pos) : Int := if wellS p ≠ 0 then 0 else if (gathP p (fun _ => true)).any (fun m => safeS p (mviOf m)) = true then 0 else if inS p.cells p.side = true then 1 else 2
theorem well_check {p : Pos} (h : wellS p = 0) : checkP p = 0 := by
  unfold wellS at h
  by_cases hc : checkP p = 0
  · exact hc
  · rw [if_pos hc] at h; exact absurd h hc
theorem well_parts {p : Pos} (h : wellS p = 0) : checkP p = 0 ∧ facS p.cells = false ∧ inS p.cells (1 - p.side) = false := by
  have hc := well_check h
  refine ⟨hc, ?_⟩
  unfold wellS at h
  rw [if_neg (by simpa using hc)] at h
  cases hf : facS p.cells
  · rw [hf] at h
    cases hi : inS p.cells (1 - p.side)
    · exact ⟨rfl, rfl⟩
    · rw [hi] at h; simp at h
  · rw [hf] at h; simp at h
theorem well_eq {p : Pos} (h : checkP p = 0) : (wellS p == 0) = (!facS p.cells && !inS p.cells (1 - p.side)) := by
  unfold wellS
  rw [if_neg (by simpa using h)]
  cases facS p.cells <;> cases inS p.cells (1 - p.side) <;> rfl
theorem apply_good {p : Pos} {m : Mvi} (hck : checkP p = 0) (hg : goodM p m = true) : applyP p m = (⟨movedB p.cells m.frm.toNat m.dest.toNat, 1 - p.side, if atS p.cells m.dest = 46 then min (p.clock + 1) 120 else 0, if p.side = 1 then min (p.full + 1) 9999 else p.full⟩, if atS p.cells m.dest = 46 then 0 else atS p.cells m.dest, 0) := by
  unfold applyP
  rw [if_neg (by simpa using hck), if_neg (by simpa using hg)]
theorem apply_ill {p : Pos} {m : Mvi} (hck : checkP p = 0) (hg : goodM p m = false) : applyP p m = (zeroP, 0, 7) := by
  unfold applyP
  rw [if_neg (by simpa using hck), if_pos hg]
/-- Behind a good move the position is right but for checks. -/
theorem check_after {p : Pos} {m : Mvi} (hck : checkP p = 0) (hg : goodM p m = true) : checkP (applyP p m).1 = 0 := by
  obtain ⟨⟨f0, f1⟩, ⟨g0, g1⟩, h1, h2, h3⟩ := (ok_good hck).1 hg
  obtain ⟨_, _, q1, q2, q3, q4⟩ := argOk_yes (checkP_board hck)
  rw [apply_good hck hg]
  exact (right_after hck (by omega) (by omega) h1 h2 h3 _ _ (by split <;> omega) (by split <;> omega)).1
theorem safe_good {p : Pos} {m : Mvi} (hck : checkP p = 0) (hg : goodM p m = true) : safeS p m = safeR (movedB p.cells m.frm.toNat m.dest.toNat) p.side := by
  have h := check_after hck hg
  have hw := well_eq h
  rw [apply_good hck hg] at hw
  unfold safeS safeR
  rw [apply_good hck hg]
  simp only at hw ⊢
  rw [hw, show (1 : Int) - (1 - p.side) = p.side by omega]
  simp
theorem safe_ill {p : Pos} {m : Mvi} (hck : checkP p = 0) (hg : goodM p m = false) : safeS p m = false := by
  unfold safeS
  rw [apply_ill hck hg]
  rfl
theorem safe_is_good {p : Pos} {m : Mvi} (hck : checkP p = 0) (h : safeS p m = true) : goodM p m = true := by
  cases hg : goodM p m
  · rw [safe_ill hck hg] at h; cases h
  · rfl
theorem safe_may {p : Pos} (hck : checkP p = 0) {m : Mv} (hm : m ∈ gathP p (fun _ => true)) : safeS p (mviOf m) = mayR p.cells p.side m := by
  obtain ⟨_, h1, h2, h3, h4, _⟩ := gath_mem hm
  have hg := good_move hck h1 h2 h3 h4
  unfold mayR
  cases hk : (kindN (cel p.cells m.2) != 75)
  · rw [hk] at hg
    rw [safe_ill hck hg]; rfl
  · rw [hk] at hg
    rw [safe_good hck hg]; rfl
theorem legal_eq {p : Pos} (h : wellS p = 0) : legalL p = legalR p.cells p.side := by
  have hc := well_check h
  unfold legalL legalR
  rw [if_pos h]
  have hg : gathM p.cells p.side (fun _ => true) 90 = gathP p (fun _ => true) := by unfold gathP; rw [if_pos hc]
  rw [hg]
  exact List.filter_congr fun m hm => safe_may hc hm
theorem legal_no {p : Pos} (h : wellS p ≠ 0) : legalL p = [] := if_neg h
theorem legal_mem {p : Pos} {m : Mv} : m ∈ legalL p ↔ wellS p = 0 ∧ m ∈ gathP p (fun _ => true) ∧ safeS p (mviOf m) = true := by
  unfold legalL
  split
  · rename_i h; rw [List.mem_filter]; exact ⟨fun h2 => ⟨h, h2⟩, fun h2 => h2.2⟩
  · rename_i h; simp [h]
theorem legal_len (p : Pos) : (legalL p).length ≤ (gathP p (fun _ => true)).length := by
  unfold legalL; split
  · exact List.length_filter_le _ _
  · simp
theorem legal_len2 (p : Pos) : (legalL p).length ≤ 8100 := Nat.le_trans (legal_len p) (gath_len p _)
/-- The end, of the moves. -/
theorem end_eq (p : Pos) : endS p = if wellS p ≠ 0 then 0 else if 0 < (legalL p).length then 0 else if inS p.cells p.side = true then 1 else 2 := by
  unfold endS
  by_cases h : wellS p = 0
  · have hn : ¬ (wellS p ≠ 0) := by simpa using h
    rw [if_neg hn, if_neg hn]
    have e : legalL p = (gathP p (fun _ => true)).filter (fun m => safeS p (mviOf m)) := if_pos h
    rw [e]
    have k : (gathP p (fun _ => true)).any (fun m => safeS p (mviOf m)) = true ↔ 0 < ((gathP p (fun _ => true)).filter (fun m => safeS p (mviOf m))).length := by
      rw [List.any_eq_true, List.length_pos_iff_exists_mem]
      exact ⟨fun ⟨x, h1, h2⟩ => ⟨x, List.mem_filter.2 ⟨h1, h2⟩⟩, fun ⟨x, h1⟩ => ⟨x, List.mem_filter.1 h1⟩⟩
    by_cases hq : (gathP p (fun _ => true)).any (fun m => safeS p (mviOf m)) = true
    · rw [if_pos hq, if_pos (k.1 hq)]
    · rw [if_neg hq, if_neg (fun hh => hq (k.2 hh))]
  · rw [if_pos h, if_pos h]
theorem make_ok {p : Pos} {m : Mvi} (hw : wellS p = 0) (hs : safeS p m = true) : makeP p m = applyP p m := by
  unfold makeP; rw [if_neg (by simpa using hw), if_neg (by simpa using hs)]
theorem make_err {p : Pos} {m : Mvi} : (makeP p m).2.2 = 0 ↔ wellS p = 0 ∧ safeS p m = true := by
  unfold makeP
  by_cases hw : wellS p = 0
  · rw [if_neg (by simpa using hw)]
    cases hs : safeS p m
    · simp [hw]
    · simp only [Bool.true_eq_false, if_false]
      unfold safeS at hs
      simp only [Bool.and_eq_true, beq_iff_eq] at hs
      simp [hw, hs.1]
  · rw [if_pos hw]
    simp [hw]
end Go.Proofs.YtllbkppdkldmiaaGreatDoor.K
