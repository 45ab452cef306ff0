/- Walks and plain laws that several statements lean on, joined: no statement of the seat is proved here. -/
import Derived.Test.YtgmlojocafepiaaGreatDoorB13

/- Plain law of GameFull: four positions in a circle. -/
namespace Go.Proofs.YtgmlojocafepiaaGreatDoor.K
open Go.RowKit Go.Lib Go.Proofs.YtgmlojocafepiaaGreatDoorW.PrintWords Go.Proofs.YtgmlojocafepiaaGreatDoor.Sp
set_option linter.unusedVariables false
set_option linter.unusedSimpArgs false
theorem arg_clock (s : ByteArray) (a c f : Int) (hc : 0 ≤ c ∧ c ≤ 120) (hf : 1 ≤ f ∧ f ≤ 9999) : argOk ⟨s, a, c, f⟩ = argOk ⟨s, a, 0, 1⟩ := by
  unfold argOk
  simp only
  congr 1
  rw [decide_eq_decide]
  omega
theorem check_clock (s : ByteArray) (a c f : Int) (hc : 0 ≤ c ∧ c ≤ 120) (hf : 1 ≤ f ∧ f ≤ 9999) : checkP ⟨s, a, c, f⟩ = checkP ⟨s, a, 0, 1⟩ := by
  unfold checkP
  rw [arg_clock s a c f hc hf]
theorem well_clock (s : ByteArray) (a c f : Int) (hc : 0 ≤ c ∧ c ≤ 120) (hf : 1 ≤ f ∧ f ≤ 9999) : wellS ⟨s, a, c, f⟩ = wellS ⟨s, a, 0, 1⟩ := by
  unfold wellS
  rw [check_clock s a c f hc hf]
/-- A quiet move from one board to another, whatever the clock. -/
theorem make_clock {s t : ByteArray} {a : Int} {m : Mv} (h1 : wellS ⟨s, a, 0, 1⟩ = 0) (h2 : safeS ⟨s, a, 0, 1⟩ (mviOf m) = true) (h3 : movedB s m.1 m.2 = t) (h4 : atS s (m.2 : Int) = 46) (c f : Int) (hc : 0 ≤ c ∧ c ≤ 120) (hf : 1 ≤ f ∧ f ≤ 9999) :
    wellS ⟨s, a, c, f⟩ = 0 ∧ safeS ⟨s, a, c, f⟩ (mviOf m) = true ∧ makeP ⟨s, a, c, f⟩ (mviOf m) = (⟨t, 1 - a, min (c + 1) 120, if a = 1 then min (f + 1) 9999 else f⟩, 0, 0) := by
  have hw : wellS ⟨s, a, c, f⟩ = 0 := by rw [well_clock s a c f hc hf]; exact h1
  have hck := well_check h1
  have hgd := safe_is_good hck h2
  have hck2 := well_check hw
  have hgd2 : goodM ⟨s, a, c, f⟩ (mviOf m) = true := hgd
  have e1 : applyP ⟨s, a, 0, 1⟩ (mviOf m) = (⟨t, 1 - a, min (0 + 1) 120, if a = 1 then min (1 + 1) 9999 else 1⟩, 0, 0) := by
    rw [apply_good hck hgd]
    show ((⟨movedB s m.1 m.2, 1 - a, if atS s (m.2 : Int) = 46 then _ else _, _⟩ : Pos), (if atS s (m.2 : Int) = 46 then 0 else _), (0 : Int)) = _
    rw [if_pos h4, if_pos h4, h3]
  have e2 : applyP ⟨s, a, c, f⟩ (mviOf m) = (⟨t, 1 - a, min (c + 1) 120, if a = 1 then min (f + 1) 9999 else f⟩, 0, 0) := by
    rw [apply_good hck2 hgd2]
    show ((⟨movedB s m.1 m.2, 1 - a, if atS s (m.2 : Int) = 46 then _ else _, _⟩ : Pos), (if atS s (m.2 : Int) = 46 then 0 else _), (0 : Int)) = _
    rw [if_pos h4, if_pos h4, h3]
  have hs : safeS ⟨s, a, c, f⟩ (mviOf m) = true := by
    unfold safeS at h2 ⊢
    rw [e1] at h2
    rw [e2]
    simp only [beq_self_eq_true, Bool.true_and, beq_iff_eq] at h2 ⊢
    rw [well_clock _ _ _ _ (by omega) (by split <;> omega)] at h2 ⊢
    exact h2
  exact ⟨hw, hs, by rw [make_ok hw hs, e2]⟩
def fB1 : ByteArray := movedB startB 0 9
def fB2 : ByteArray := movedB fB1 81 72
def fB3 : ByteArray := movedB fB2 9 0
theorem fB_facts : movedB fB3 72 81 = startB ∧ (atS startB 9 = 46 ∧ atS fB1 72 = 46 ∧ atS fB2 0 = 46 ∧ atS fB3 81 = 46) := by decide +kernel
theorem fB_well : wellS ⟨startB, 0, 0, 1⟩ = 0 ∧ wellS ⟨fB1, 1, 0, 1⟩ = 0 ∧ wellS ⟨fB2, 0, 0, 1⟩ = 0 ∧ wellS ⟨fB3, 1, 0, 1⟩ = 0 := by decide +kernel
theorem fB_safe : safeS ⟨startB, 0, 0, 1⟩ (mviOf (0, 9)) = true ∧ safeS ⟨fB1, 1, 0, 1⟩ (mviOf (81, 72)) = true ∧ safeS ⟨fB2, 0, 0, 1⟩ (mviOf (9, 0)) = true ∧ safeS ⟨fB3, 1, 0, 1⟩ (mviOf (72, 81)) = true := by decide +kernel
def fB (i : Nat) : ByteArray := if i % 4 = 0 then startB else if i % 4 = 1 then fB1 else if i % 4 = 2 then fB2 else fB3
def fRow : List Mv := [(0, 9), (81, 72), (9, 0), (72, 81)]
def fMv (i : Nat) : Mv := fRow.getD (i % 4) (0, 0)
/-- The position behind so many plies. -/
def fP (i : Nat) : Pos := ⟨fB i, (i % 2 : Nat), min (i : Int) 120, min (1 + ((i / 2 : Nat) : Int)) 9999⟩
theorem fP_zero : fP 0 = startP := by
  show (⟨startB, 0, 0, 1⟩ : Pos) = startP
  rfl
theorem fP_next (i : Nat) : wellS (fP i) = 0 ∧ safeS (fP i) (mviOf (fMv i)) = true ∧ makeP (fP i) (mviOf (fMv i)) = (fP (i + 1), 0, 0) := by
  obtain ⟨a4, b1, b2, b3, b4⟩ := fB_facts
  obtain ⟨w1, w2, w3, w4⟩ := fB_well
  obtain ⟨s1, s2, s3, s4⟩ := fB_safe
  have hc : 0 ≤ min (i : Int) 120 ∧ min (i : Int) 120 ≤ 120 := by omega
  have hf : 1 ≤ min (1 + ((i / 2 : Nat) : Int)) 9999 ∧ min (1 + ((i / 2 : Nat) : Int)) 9999 ≤ 9999 := by omega
  have hc1 : min (min (i : Int) 120 + 1) 120 = min ((i + 1 : Nat) : Int) 120 := by omega
  have hf1 : i % 2 = 1 → min (min (1 + ((i / 2 : Nat) : Int)) 9999 + 1) 9999 = min (1 + (((i + 1) / 2 : Nat) : Int)) 9999 := by omega
  have hf0 : i % 2 = 0 → min (1 + ((i / 2 : Nat) : Int)) 9999 = min (1 + (((i + 1) / 2 : Nat) : Int)) 9999 := by omega
  rcases (show i % 4 = 0 ∨ i % 4 = 1 ∨ i % 4 = 2 ∨ i % 4 = 3 by omega) with h | h | h | h
  · have e1 : fB i = startB := by unfold fB; rw [if_pos h]
    have e2 : fB (i + 1) = fB1 := by unfold fB; rw [if_neg (by omega), if_pos (by omega)]
    have e3 : i % 2 = 0 := by omega
    have e4 : (i + 1) % 2 = 1 := by omega
    have e5 : fMv i = (0, 9) := by unfold fMv; rw [h]; rfl
    have k := make_clock w1 s1 (t := fB1) rfl b1 _ _ hc hf
    unfold fP
    rw [e1, e2, e3, e4, e5]
    rw [hc1, if_neg (by decide), hf0 e3] at k
    rw [hf0 e3]
    exact k
  · have e1 : fB i = fB1 := by unfold fB; rw [if_neg (by omega), if_pos h]
    have e2 : fB (i + 1) = fB2 := by unfold fB; rw [if_neg (by omega), if_neg (by omega), if_pos (by omega)]
    have e3 : i % 2 = 1 := by omega
    have e4 : (i + 1) % 2 = 0 := by omega
    have e5 : fMv i = (81, 72) := by unfold fMv; rw [h]; rfl
    have k := make_clock w2 s2 (t := fB2) rfl b2 _ _ hc hf
    unfold fP
    rw [e1, e2, e3, e4, e5]
    rw [hc1, if_pos rfl, hf1 e3] at k
    exact k
  · have e1 : fB i = fB2 := by unfold fB; rw [if_neg (by omega), if_neg (by omega), if_pos h]
    have e2 : fB (i + 1) = fB3 := by unfold fB; rw [if_neg (by omega), if_neg (by omega), if_neg (by omega)]
    have e3 : i % 2 = 0 := by omega
    have e4 : (i + 1) % 2 = 1 := by omega
    have e5 : fMv i = (9, 0) := by unfold fMv; rw [h]; rfl
    have k := make_clock w3 s3 (t := fB3) rfl b3 _ _ hc hf
    unfold fP
    rw [e1, e2, e3, e4, e5]
    rw [hc1, if_neg (by decide), hf0 e3] at k
    rw [hf0 e3]
    exact k
  · have e1 : fB i = fB3 := by unfold fB; rw [if_neg (by omega), if_neg (by omega), if_neg (by omega)]
    have e2 : fB (i + 1) = startB := by unfold fB; rw [if_pos (by omega)]
    have e3 : i % 2 = 1 := by omega
    have e4 : (i + 1) % 2 = 0 := by omega
    have e5 : fMv i = (72, 81) := by unfold fMv; rw [h]; rfl
    have k := make_clock w4 s4 (t := startB) a4 b4 _ _ hc hf
    unfold fP
    rw [e1, e2, e3, e4, e5]
    rw [hc1, if_pos rfl, hf1 e3] at k
    exact k
/-- The stack behind so many plies. -/
def fU (i : Nat) : Und := ⟨fMv i, 0, (fP i).clock, (fP i).full⟩
def fUs (i : Nat) : List Und := (List.range i).map fU
theorem fUs_len (i : Nat) : (fUs i).length = i := by simp [fUs]
theorem fUs_next (i : Nat) : fUs (i + 1) = fUs i ++ [fU i] := by simp [fUs, List.range_succ]
theorem f_step (i : Nat) (hi : i < 1024) : stepMake (fP i) (fUs i) (mviOf (fMv i)) = (0, fP (i + 1), fUs (i + 1)) := by
  unfold stepMake
  rw [if_neg (by rw [fUs_len]; omega), (fP_next i).2.2, if_neg (by simp), fUs_next]
  rfl
theorem f_full (m : Mvi) : stepMake (fP 1024) (fUs 1024) m = (8, fP 1024, fUs 1024) := by
  unfold stepMake
  rw [if_pos (fUs_len 1024)]
theorem f_back (i : Nat) : OkMv (fP i) (fP (i + 1)) (fU i).mv (fU i).tk ∧ (fU i).ck = (fP i).clock ∧ (fU i).fl = (fP i).full :=
  ⟨okMv (fP_next i).1 (fP_next i).2.1 (fP_next i).2.2, rfl, rfl⟩
end Go.Proofs.YtgmlojocafepiaaGreatDoor.K

/- GameFull: the walk. -/
namespace Go.Proofs.YtgmlojocafepiaaGreatDoor.K
open Go.RowKit Go.Lib Go.Proofs.YtgmlojocafepiaaGreatDoorW.PrintWords Go.Proofs.YtgmlojocafepiaaGreatDoor.Sp
set_option linter.unusedVariables false
set_option linter.unusedSimpArgs false
theorem full_tale : ∃ (P : Nat → Pos) (U : Nat → List Und) (u : Nat → Und), P 0 = startP ∧ U 0 = [] ∧ (∀ i, (U i).length = i) ∧ (∀ i, wellS (P i) = 0) ∧ (∀ i, i < 1024 → stepMake (P i) (U i) (mviOf (fMv i)) = (0, P (i + 1), U (i + 1))) ∧ (∀ m, stepMake (P 1024) (U 1024) m = (8, P 1024, U 1024)) ∧
    (∀ i, U (i + 1) = U i ++ [u i] ∧ OkMv (P i) (P (i + 1)) (u i).mv (u i).tk ∧ (u i).ck = (P i).clock ∧ (u i).fl = (P i).full) :=
  ⟨fP, fUs, fU, fP_zero, rfl, fUs_len, fun i => (fP_next i).1, f_step, f_full, fun i => ⟨fUs_next i, f_back i⟩⟩
/-- The game of GameFull beside its four moves. -/
structure F9 (w W : World) (S : Nat → Prop) (gb pb : Nat) (sv : Value) (q : Pos) (us : List Und) (B tb : Nat) : Prop where
  g : G9 w W S gb pb sv q us
  r : R9 W S B (.slice (some ⟨tb, 0, none⟩) 4 4) fRow
section
variable {w W W' : World} {S : Nat → Prop} {gb pb : Nat} {sv sv' : Value} {q q' : Pos} {us us' : List Und} {B tb : Nat}
theorem F9.below (h : F9 w W S gb pb sv q us B tb) (hb : Below W.heap.size W W') : F9 w W' S gb pb sv q us B tb := ⟨h.g.below hb, h.r.below hb⟩
theorem F9.made (h : F9 w W S gb pb sv q us B tb) (hk : Ken S W W') (hg : GmX W' (andNew S W W') gb pb sv' q' us') : ∃ S', F9 w W' S' gb pb sv' q' us' B tb := by
  have hz := hk.size
  refine ⟨andNew S W W', ⟨hg, h.g.bel.trans (hk.toBelow h.g.bel.size (fun k hh => (h.g.up k hh).1)), fun k hh => ?_⟩, h.r.made hk⟩
  have hl := h.g.bel.size
  rcases hh with hh | ⟨h1, h2⟩
  · have := h.g.up k hh; omega
  · omega
theorem F9.same (h : F9 w W S gb pb sv q us B tb) (hk : Ken S W W') (hg : GmX W' S gb pb sv' q' us') : F9 w W' S gb pb sv' q' us' B tb := ⟨h.g.same hk hg, h.r.same hk⟩
theorem F9.cells (h : F9 w W S gb pb sv q us B tb) (i : Nat) (hi : i < 4) : W.cell? ⟨tb, i * 2, none⟩ = some (.int .i64 ((fRow.getD i (0, 0)).1 : Int)) ∧ W.cell? ⟨tb, i * 2 + 1, none⟩ = some (.int .i64 ((fRow.getD i (0, 0)).2 : Int)) := by
  obtain ⟨g1, cap1, hA1, _, _, hx1⟩ := h.r.row.at (by unfold fRow; simp)
  simp only [Value.slice.injEq, Option.some.injEq, Addr.mk.injEq, and_true] at hA1
  obtain ⟨rfl, _, _⟩ := hA1
  have hl : i < fRow.length := hi
  have := hx1 i hl
  rw [List.getD_eq_getElem?_getD, List.getElem?_eq_getElem hl]
  exact this
end
theorem F9.new {w W : World} {S : Nat → Prop} {gb pb : Nat} {sv : Value} {q : Pos} {us : List Und} (h : G9 w W S gb pb sv q us) (T : TypeId) : F9 w (W.alloc (.cells #[.int .i64 0, .int .i64 9, .int .i64 81, .int .i64 72, .int .i64 9, .int .i64 0, .int .i64 72, .int .i64 81] T)) S gb pb sv q us 0 W.heap.size := by
  refine ⟨h.below (below_alloc (Below.refl _ _) _), ⟨⟨_, 4, rfl, .inr ⟨W.heap.size, rfl, Nat.zero_le _, by simp, fun i hi => ?_⟩⟩, fun g hg => ?_⟩⟩
  · have hi4 : i < 4 := hi
    rcases (show i = 0 ∨ i = 1 ∨ i = 2 ∨ i = 3 by omega) with rfl | rfl | rfl | rfl
    all_goals simp [World.cell?_alloc_at, fRow]
  · obtain rfl : W.heap.size = g := by simpa [Value.ownBlock] using hg
    exact ⟨fun hh => by have := h.up _ hh; omega, by simp⟩
set_option maxRecDepth 100000 in
set_option maxHeartbeats 8000000 in
theorem gameFullLaw (w : World) (t : Int) (hT : TabW w) : Calls Tryz.prog 5 #[.int .i64 t] w fun e w' => e = .returned (.bool true) ∧ Below w.heap.size w w' := by
  have HT := Aside0.mk (fun (W : World) (hb : Below w.heap.size w W) => hT.below hb)
  have HLV := Aside0.mk (fun (W : World) (hT : TabW W) => live9_c W hT)
  have HN := Aside0.mk (new_start w hT)
  have hu := Tryz.underlying23
  have hu2 := Tryz.underlying32
  by_cases hgd : t < 0 ∨ 10 < t
  · rcases (show t < 0 ∨ (¬ t < 0 ∧ 10 < t) by omega) with h1 | ⟨h1, h2⟩
    all_goals
      clear hgd hT
      go_enter Tryz.func5, Tryz.ntmps5
      go_wp2_with fail
      refine (HLV.out _ (HT.out _ (Below.refl _ _))).mono ?_
      rintro e w1 ⟨rfl, hb⟩
      have HW1 := Aside0.mk hb
      clear hb
      go_wp2_with fail
      go_ret
      exact ⟨rfl, HW1.out⟩
  obtain ⟨tn, rfl⟩ : ∃ tn : Nat, t = (tn : Int) := ⟨t.toNat, by omega⟩
  have h1 : ¬ ((tn : Int) < 0) := by omega
  have h2 : ¬ (10 < (tn : Int)) := by omega
  have HT10 := Aside0.mk (show tn ≤ 10 by omega)
  obtain ⟨P, U, u, hP0, hU0, hUl, hPw, hst, hfl, hbk⟩ := full_tale
  have HUL := Aside0.mk hUl
  have HPW := Aside0.mk hPw
  have HST := Aside0.mk hst
  have HFL := Aside0.mk hfl
  have HBK := Aside0.mk hbk
  have HP0 := Aside0.mk (And.intro hP0 hU0)
  clear hgd hT hP0 hU0 hUl hPw hst hfl hbk
  go_enter Tryz.func5, Tryz.ntmps5
  go_wp2_with fail
  refine HN.out.mono ?_
  rintro e w1 ⟨gb, pb, rfl, hg, hb⟩
  have hz : w.heap.size ≤ w.heap.size := Nat.le_refl _
  have H1 : Aside0 (G9 w w1 (newIn w w1) gb pb (.slice none 0 0) (P 0) (U 0)) := ⟨by rw [HP0.out.1, HP0.out.2]; exact ⟨hg, hb, fun k hk => hk⟩⟩
  generalize newIn w w1 = S at H1
  clear hg hb hz HN h1 h2
  go_upto_region 7 with fail
  have HX := Aside0.mk (F9.new H1.out 32)
  generalize w1.alloc (.cells #[.int .i64 0, .int .i64 9, .int .i64 81, .int .i64 72, .int .i64 9, .int .i64 0, .int .i64 72, .int .i64 81] 32) = W2 at *
  generalize w1.heap.size = tb at *
  clear H1
  go_wp2_with fail
  go_loopg [6] 1024 (fun gg s6 wr => ∃ (i : Nat) (S : Nat → Prop) (sv : Value), s6 = .int .i64 (i : Int) ∧ i + gg = 1024 ∧ Aside0 (F9 w wr S gb pb sv (P i) (U i) 0 tb))
  case atStart => exact ⟨0, S, _, rfl, by omega, HX⟩
  case round =>
    clear HX
    obtain ⟨i, S1, sv, rfl, hi, HX⟩ := hrel
    cases gk with
    | succ g =>
      have hn : (i : Int) < 1024 := by omega
      have HI := Aside0.mk (show i + 1 + g = 1024 by omega)
      have hr1 : (i : Int).tmod 4 = ((i % 4 : Nat) : Int) := by rw [Int.tmod_eq_emod_of_nonneg (by omega)]; omega
      have hr2 : IntKind.i64.wrap ((i % 4 : Nat) : Int) = ((i % 4 : Nat) : Int) := by rw [IntKind.wrap_i64]; omega
      have hr3 : 0 ≤ ((i % 4 : Nat) : Int) := by omega
      have hr4 : ((i % 4 : Nat) : Int) < 4 := by omega
      obtain ⟨x0, x1⟩ := HX.out.cells (i % 4) (by omega)
      have HMK := Aside0.mk (gmake_c S1 gb pb sv (P i) (U i) (mviOf (fMv i)) wr HX.out.g.gm (HT.out _ HX.out.g.bel) (HPW.out i) (by rw [HUL.out]; omega))
      unfold MadeIs at HMK
      rw [HST.out i (by omega)] at HMK
      unfold fMv at HMK
      generalize fRow.getD (i % 4) (0, 0) = m at *
      obtain ⟨ma, mb⟩ := m
      simp only at x0 x1
      generalize i % 4 = r at *
      clear hi
      go_wp2_with fail
      refine HMK.out.mono ?_
      rintro e w6 ⟨sv6, rfl, hg, hk⟩
      obtain ⟨S6, H6⟩ := HX.out.made hk hg
      have H6 := Aside0.mk H6
      clear hg hk HX HMK x0 x1 hr1 hr2 hr3 hr4
      go_wp2_with fail
      go_roundg g
      case measure => omega
      case rel => exact ⟨i + 1, S6, _, by go_num, HI.out, H6⟩
    | zero =>
      have hn : ¬ ((i : Int) < 1024) := by omega
      obtain rfl : i = 1024 := by omega
      clear hi
      go_wp2_with fail
      go_loopg [7] tn (fun gg s7 wr => ∃ (i : Nat) (S : Nat → Prop) (sv : Value), s7 = .int .i64 (i : Int) ∧ i + gg = tn ∧ Aside0 (F9 w wr S gb pb sv (P 1024) (U 1024) 0 tb))
      case atStart => exact ⟨0, S1, _, rfl, by omega, HX⟩
      case round =>
        clear HX
        obtain ⟨j, S2, sv2, rfl, hj, HX⟩ := hrel
        cases gk with
        | succ g =>
          have hn2 : (j : Int) < (tn : Int) := by omega
          have hjb : (j : Int) ≤ 10 := by have := HT10.out; omega
          have HJ := Aside0.mk (show j + 1 + g = tn by omega)
          obtain ⟨x0, x1⟩ := HX.out.cells 0 (by omega)
          have x0 : wr.cell? ⟨tb, 0, none⟩ = some (.int .i64 0) := x0
          have x1 : wr.cell? ⟨tb, 1, none⟩ = some (.int .i64 9) := x1
          have HMK := Aside0.mk (gmake_c S2 gb pb sv2 (P 1024) (U 1024) ⟨0, 9⟩ wr HX.out.g.gm (HT.out _ HX.out.g.bel) (HPW.out _) (by rw [HUL.out]; omega))
          unfold MadeIs at HMK
          rw [HFL.out] at HMK
          clear hj
          go_wp2_with fail
          refine HMK.out.mono ?_
          rintro e w6 ⟨sv6, rfl, hg, hk⟩
          obtain ⟨S6, H6⟩ := HX.out.made hk hg
          have H6 := Aside0.mk H6
          clear hg hk HX HMK x0 x1
          go_wp2_with fail
          go_roundg g
          case measure => omega
          case rel => exact ⟨j + 1, S6, _, by go_num, HJ.out, H6⟩
        | zero =>
          have hn2 : ¬ ((j : Int) < (tn : Int)) := by omega
          have HU1 := HBK.out 1023
          have HUN := Aside0.mk (gunmake_c S2 gb pb sv2 (P 1023) (P 1024) (U 1023) (u 1023) wr (by have := HX.out.g.gm; rw [HU1.1] at this; exact this) HU1.2.1 HU1.2.2.1 HU1.2.2.2 (by rw [HUL.out]; omega))
          unfold UnIs at HUN
          clear hj HU1
          go_wp2_with fail
          refine HUN.out.mono ?_
          rintro e w6 ⟨sv6, rfl, hg, hk⟩
          have H6 := Aside0.mk (HX.out.same hk hg)
          clear hg hk HX HUN
          have hl3 : ((U 1023).length : Int) = 1023 := by rw [HUL.out]; rfl
          obtain ⟨x0, x1⟩ := H6.out.cells 3 (by omega)
          have x0 : w6.cell? ⟨tb, 6, none⟩ = some (.int .i64 72) := x0
          have x1 : w6.cell? ⟨tb, 7, none⟩ = some (.int .i64 81) := x1
          have HMK := Aside0.mk (gmake_c S2 gb pb sv6 (P 1023) (U 1023) (mviOf (fMv 1023)) w6 H6.out.g.gm (HT.out _ H6.out.g.bel) (HPW.out _) (by rw [HUL.out]; omega))
          unfold MadeIs at HMK
          rw [HST.out 1023 (by omega)] at HMK
          have hm : mviOf (fMv 1023) = ⟨72, 81⟩ := rfl
          rw [hm] at HMK
          clear hm
          go_wp2_with fail
          refine (gplies_c H6.out.g.gm).mono ?_
          rintro e w7 ⟨rfl, rfl⟩
          go_wp2_with fail
          refine HMK.out.mono ?_
          rintro e w8 ⟨sv8, rfl, hg, hk⟩
          obtain ⟨S8, H8⟩ := H6.out.made hk hg
          have H8 := Aside0.mk H8
          clear hg hk H6 HMK x0 x1
          have hl4 : ((U (1023 + 1)).length : Int) = 1024 := by rw [HUL.out]; rfl
          go_wp2_with fail
          refine (gplies_c H8.out.g.gm).mono ?_
          rintro e w9 ⟨rfl, rfl⟩
          go_wp2_with fail
          refine (HLV.out _ (HT.out _ H8.out.g.bel)).mono ?_
          rintro e w10 ⟨rfl, hb⟩
          have HW := Aside0.mk (below_go H8.out.g.bel hb)
          clear hb
          go_wp2_with fail
          go_ret
          exact ⟨rfl, HW.out⟩
end Go.Proofs.YtgmlojocafepiaaGreatDoor.K
