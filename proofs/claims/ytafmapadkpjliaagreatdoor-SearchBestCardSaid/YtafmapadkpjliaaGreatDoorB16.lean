/- Walks and plain laws that several statements lean on, joined: no statement of the seat is proved here. -/
import Derived.Deep.Slices
import Derived.Test.YtafmapadkpjliaaGreatDoorB15
import Derived.Test.YtafmapadkpjliaaGreatDoorB14

/- SearchBest: what it leans on. -/
namespace Go.Proofs.YtafmapadkpjliaaGreatDoor.K
open Go.RowKit Go.Lib Go.Proofs.YtafmapadkpjliaaGreatDoorW.PrintWords Go.Proofs.YtafmapadkpjliaaGreatDoorW.PrintLast Go.Proofs.YtafmapadkpjliaaGreatDoorW.PrintMore Go.Proofs.YtafmapadkpjliaaGreatDoor.Sp
set_option linter.unusedVariables false
set_option linter.unusedSimpArgs false
/-- A table, or none, that Best is handed; S: its blocks. -/
def TvAt (W : World) (S : Nat → Prop) (tv : Value) (C : Nat) : Prop :=
  (tv = .pointer none ∧ ∀ k, ¬ S k) ∨ ∃ tb sb n c T, tv = .pointer (some ⟨tb, 0, none⟩) ∧ (∀ k, S k ↔ k = tb ∨ k = sb) ∧ P.TabAt W tb sb n T c ∧ c ≤ C ∧ 1 ≠ tb ∧ 1 ≠ sb
theorem TvAt.below {W W' : World} {S : Nat → Prop} {tv : Value} {C : Nat} (h : TvAt W S tv C) (hb : Below W.heap.size W W') : TvAt W' S tv C := by
  rcases h with h | ⟨tb, sb, n, c, T, h1, h2, h3, h4⟩
  · exact .inl h
  · exact .inr ⟨tb, sb, n, c, T, h1, h2, h3.below hb, h4⟩
/-- What any two that tell the best one tell. -/
theorem resT_ex (o : Option (Mv × Int)) (D : Int) : ∃ a b s D' f, resT o D a b s D' f ∧ ∀ a2 b2 s2 D2 f2, resT o D a2 b2 s2 D2 f2 → a2 = a ∧ b2 = b ∧ s2 = s ∧ D2 = D' ∧ f2 = f := by
  cases o with
  | none => exact ⟨0, 0, 0, 0, false, ⟨rfl, rfl, rfl, rfl, rfl⟩, fun a2 b2 s2 D2 f2 h => h⟩
  | some x =>
    obtain ⟨m, v⟩ := x
    exact ⟨m.1, m.2, v, D, true, ⟨rfl, rfl, rfl, rfl, rfl⟩, fun a2 b2 s2 D2 f2 h => h⟩
/-- Best, with a table or none, and the document's Best tell the same. -/
theorem best_both (p : Pos) (hmx : p.cells.size ≤ maxLen) (D : Int) (M : List Mvi) (hM : M.length ≤ 10000) (h9 : wellS p = 0 → nP p.cells ≤ 9) (hD : D ≤ 1 ∨ 64 < D ∨ D = 2) :
    ∃ (a b s D' : Int) (f : Bool) (E : Int),
      (∀ (W : World) (v : Value) (g : Nat) (S : Nat → Prop) (tv : Value) (C : Nat), C ≤ 1000000000 → RowI W g v M → TabW W → TvAt W S tv C → Calls Tryz.prog 12 #[posV p, .int .i64 D, v, tv] W fun e w' => e = .returned (.tuple #[resV a b s D' f, .int .i64 E]) ∧ Ken S W w' ∧ TvAt w' S tv (C + 1000000)) ∧
      (∀ (W : World) (v : Value) (g : Nat), RowI W g v M → Calls Tryz.prog 13 #[posV p, .int .i64 D, v] W fun e w' => e = .returned (.tuple #[resV a b s D' f, .int .i64 E]) ∧ Below W.heap.size W w') := by
  have hup : ∀ {W : World} {S : Nat → Prop} {tv : Value} {C : Nat}, TvAt W S tv C → TvAt W S tv (C + 1000000) := by
    intro W S tv C h
    rcases h with h | ⟨tb, sb, n, c, T, h1, h2, h3, h4, h5⟩
    · exact .inl h
    · exact .inr ⟨tb, sb, n, c, T, h1, h2, h3, by omega, h5⟩
  by_cases hE : begE p D 1 M = 0
  · obtain ⟨hw, h1, h64⟩ := begE_zero hE
    obtain ⟨d, hd, hdD⟩ : ∃ d : Nat, d ≤ 1 ∧ D = (d : Int) + 1 := ⟨(D - 1).toNat, by omega, by omega⟩
    subst hdD
    obtain ⟨a, b, s, D', f, hr, hu⟩ := resT_ex (firstB (moveW p d 0) (begL p M)) ((d : Int) + 1)
    refine ⟨a, b, s, D', f, 0, fun W v g S tv C hC hrow hT hTv => ?_, fun W v g hrow => ?_⟩
    · rcases hTv with ⟨rfl, hS⟩ | ⟨tb, sb, n, c, T, rfl, hS, ht, hcC, hg1, hg2⟩
      · refine (best_ok p d hd (h9 hw) M hM g v (.pointer none) (fun _ => False) _ 0 (by decide) W hrow hT hE (find_nil _ W hT)).mono ?_
        rintro e w' ⟨a2, b2, s2, D2, f2, rfl, h1, h2, _⟩
        obtain ⟨rfl, rfl, rfl, rfl, rfl⟩ := hu _ _ _ _ _ h1
        exact ⟨rfl, h2.mono (fun k hk => hk.elim), .inl ⟨rfl, hS⟩⟩
      · refine (best_ok p d hd (h9 hw) M hM g v (.pointer (some ⟨tb, 0, none⟩)) (fun k => k = tb ∨ k = sb) _ c (by omega) W hrow hT hE (find_tab _ W hT tb sb n c T ht hg1 hg2)).mono ?_
        rintro e w' ⟨a2, b2, s2, D2, f2, rfl, h1, h2, tb2, sb2, n2, c2, T2, ⟨rfl, rfl⟩, h4, h5⟩
        obtain ⟨rfl, rfl, rfl, rfl, rfl⟩ := hu _ _ _ _ _ h1
        exact ⟨rfl, h2.mono (fun k hk => (hS k).2 hk), .inr ⟨_, _, n2, c2, T2, rfl, hS, h4, by omega, hg1, hg2⟩⟩
    · refine (rbest_c p hmx d M hM g v W hrow (begE_nil_of hE)).mono ?_
      rintro e w' ⟨a2, b2, s2, D2, f2, rfl, h1, h2⟩
      rw [if_pos hE] at h1
      obtain ⟨rfl, rfl, rfl, rfl, rfl⟩ := hu _ _ _ _ _ h1
      exact ⟨by rw [hE], h2⟩
  · refine ⟨0, 0, 0, 0, false, begE p D 1 M, fun W v g S tv C hC hrow hT hTv => ?_, fun W v g hrow => ?_⟩
    · refine (best_no p D M hM g v tv W hrow hT hE).mono ?_
      rintro e w' ⟨rfl, hb⟩
      exact ⟨rfl, Ken.of_below hb S, hup (hTv.below hb)⟩
    · by_cases hE0 : begE p D 1 [] = 0
      · obtain ⟨hw, h1, h64⟩ := begE_zero hE0
        obtain ⟨d, hdD⟩ : ∃ d : Nat, D = (d : Int) + 1 := ⟨(D - 1).toNat, by omega⟩
        subst hdD
        refine (rbest_c p hmx d M hM g v W hrow hE0).mono ?_
        rintro e w' ⟨a2, b2, s2, D2, f2, rfl, h1, h2⟩
        rw [if_neg hE] at h1
        obtain ⟨rfl, rfl, rfl, rfl, rfl⟩ := h1
        exact ⟨rfl, h2⟩
      · rw [begE_of_nil hE0]
        exact rbest_no p hmx D v W hE0
/-- The law's boxes: the position's, the moves' row. -/
structure SbAt (w0 W : World) (p : Pos) (pb g : Nat) (v : Value) (M : List Mvi) : Prop where
  box : BoxP W pb p
  row : RowI W g v M
  bel : Below w0.heap.size w0 W
theorem SbAt.below {w0 W W' : World} {p : Pos} {pb g : Nat} {v : Value} {M : List Mvi} (h : SbAt w0 W p pb g v M) (hb : Below W.heap.size W W') : SbAt w0 W' p pb g v M := ⟨h.box.below hb, h.row.below hb, below_go h.bel hb⟩
theorem SbAt.ken {S : Nat → Prop} {w0 W W' : World} {p : Pos} {pb g n : Nat} {v : Value} {M : List Mvi} (h : SbAt w0 W p pb g v M) (hk : Ken S W W') (hs : ∀ k, S k → n ≤ k) (h0 : w0.heap.size ≤ n) (h1 : pb < n) (h2 : M ≠ [] → g < n) : SbAt w0 W' p pb g v M := by
  refine ⟨h.box.ken hk (fun e => by have := hs _ e; omega), ?_, ((Ken.of_below h.bel (fun _ => False)).trans hk (fun j hj => .inr (by have := hs j hj; omega))).toBelow (Nat.le_refl _) (fun _ h => h.elim)⟩
  by_cases hM : M = []
  · obtain ⟨A, cap, hv, _⟩ := h.row.out
    exact ⟨A, cap, hv, .inl hM⟩
  · exact h.row.ken hk (fun e => by have := hs _ e; have := h2 hM; omega)
/-- table.New of any size. -/
theorem tnew_c (n : Int) (W : World) (hT : TabW W) : Calls Tryz.prog 11 #[.int .i64 n] W fun e w' => ∃ (tv : Value) (x : Int) (S : Nat → Prop), e = .returned (.tuple #[tv, .int .i64 x]) ∧ TvAt w' S tv 0 ∧ (∀ k, S k → W.heap.size ≤ k ∧ k < w'.heap.size) ∧ Below W.heap.size W w' := by
  by_cases h1 : n < 1
  · refine (P.new_small W n (decide_eq_true h1)).mono ?_
    rintro e w' ⟨rfl, rfl⟩
    exact ⟨.pointer none, 1, fun _ => False, rfl, .inl ⟨rfl, fun _ h => h⟩, fun k h => h.elim, Below.refl _ _⟩
  · by_cases h2 : 4096 < n
    · refine (P.new_great W n (decide_eq_false h1) (decide_eq_true h2)).mono ?_
      rintro e w' ⟨rfl, rfl⟩
      exact ⟨.pointer none, 1, fun _ => False, rfl, .inl ⟨rfl, fun _ h => h⟩, fun k h => h.elim, Below.refl _ _⟩
    · obtain ⟨k, rfl⟩ := Int.eq_ofNat_of_zero_le (show 0 ≤ n by omega)
      refine (P.new_walk W k (decide_eq_false h1) (decide_eq_false h2)).mono ?_
      rintro e w' ⟨rfl, ht, hb⟩
      have hg := hT.lt
      have hl := ht.lt
      refine ⟨_, 0, fun j => j = W.heap.size + 1 ∨ j = W.heap.size, rfl, .inr ⟨W.heap.size + 1, W.heap.size, k, 0, _, rfl, fun _ => Iff.rfl, ht, Nat.le_refl _, by omega, by omega⟩, fun j hj => ?_, hb⟩
      rcases hj with rfl | rfl <;> omega
end Go.Proofs.YtafmapadkpjliaaGreatDoor.K

/- SearchBest: the walk. -/
namespace Go.Proofs.YtafmapadkpjliaaGreatDoor.K
open Go.RowKit Go.Lib Go.Proofs.YtafmapadkpjliaaGreatDoorW.PrintWords Go.Proofs.YtafmapadkpjliaaGreatDoorW.PrintLast Go.Proofs.YtafmapadkpjliaaGreatDoorW.PrintMore Go.Proofs.YtafmapadkpjliaaGreatDoor.Sp
set_option linter.unusedVariables false
set_option linter.unusedSimpArgs false
set_option maxRecDepth 100000 in
set_option maxHeartbeats 8000000 in
theorem searchBestLaw (w : World) (p : Pos) (D : Int) (M : List Mvi) (g : Nat) (v : Value) (size : Int) (hmx : p.cells.size ≤ maxLen) (hr : RowI w g v M) (hT : TabW w) :
    Calls Tryz.prog 4 #[.agg #[.string p.cells, .int .i64 p.side, .int .i64 p.clock, .int .i64 p.full, .int .i64 D, v, .int .i64 size]] w fun e w' => e = .returned (.bool true) ∧ Below w.heap.size w w' := by
  have HT := Aside0.mk (fun (W : World) (hb : Below w.heap.size w W) => hT.below hb)
  have HLV := Aside0.mk (fun (W : World) (hT : TabW W) => live22_c W hT)
  have HF := fun W => few22_c p hmx D W
  unfold Few22 at HF
  have HF := Aside0.mk HF
  have HBB := Aside0.mk (fun (hM : M.length ≤ 10000) (h : (wellS p = 0 → nP p.cells ≤ 9) ∧ (D ≤ 1 ∨ 64 < D ∨ D = 2)) => best_both p hmx D M hM h.1 h.2)
  have HTN := Aside0.mk (fun (W : World) (hT : TabW W) => tnew_c size W hT)
  have HTD := Aside0.mk (fun (a b s D : Int) (f : Bool) (W : World) => told_c a b s D f W)
  have hu := Tryz.underlying23
  have hu2 := Tryz.underlying36
  have hu3 := Tryz.underlying38
  have hu4 := Tryz.underlying41
  have hu5 := Tryz.underlying31
  have HGL := Aside0.mk (fun (h : M ≠ []) => hr.lt h)
  have hA := below_alloc (Below.refl w.heap.size w) (.cells #[.string p.cells, .int .i64 p.side, .int .i64 p.clock, .int .i64 p.full, .int .i64 D, v, .int .i64 size] 31)
  have H1 := Aside0.mk (And.intro (hr.below hA) hA)
  have x0 : (w.alloc (.cells #[.string p.cells, .int .i64 p.side, .int .i64 p.clock, .int .i64 p.full, .int .i64 D, v, .int .i64 size] 31)).cell? ⟨w.heap.size, 0, none⟩ = some (.string p.cells) := by simp [World.cell?_alloc_at]
  have x1 : (w.alloc (.cells #[.string p.cells, .int .i64 p.side, .int .i64 p.clock, .int .i64 p.full, .int .i64 D, v, .int .i64 size] 31)).cell? ⟨w.heap.size, 1, none⟩ = some (.int .i64 p.side) := by simp [World.cell?_alloc_at]
  have x2 : (w.alloc (.cells #[.string p.cells, .int .i64 p.side, .int .i64 p.clock, .int .i64 p.full, .int .i64 D, v, .int .i64 size] 31)).cell? ⟨w.heap.size, 2, none⟩ = some (.int .i64 p.clock) := by simp [World.cell?_alloc_at]
  have x3 : (w.alloc (.cells #[.string p.cells, .int .i64 p.side, .int .i64 p.clock, .int .i64 p.full, .int .i64 D, v, .int .i64 size] 31)).cell? ⟨w.heap.size, 3, none⟩ = some (.int .i64 p.full) := by simp [World.cell?_alloc_at]
  have x4 : (w.alloc (.cells #[.string p.cells, .int .i64 p.side, .int .i64 p.clock, .int .i64 p.full, .int .i64 D, v, .int .i64 size] 31)).cell? ⟨w.heap.size, 4, none⟩ = some (.int .i64 D) := by simp [World.cell?_alloc_at]
  have x5 : (w.alloc (.cells #[.string p.cells, .int .i64 p.side, .int .i64 p.clock, .int .i64 p.full, .int .i64 D, v, .int .i64 size] 31)).cell? ⟨w.heap.size, 5, none⟩ = some v := by simp [World.cell?_alloc_at]
  have x6 : (w.alloc (.cells #[.string p.cells, .int .i64 p.side, .int .i64 p.clock, .int .i64 p.full, .int .i64 D, v, .int .i64 size] 31)).cell? ⟨w.heap.size, 6, none⟩ = some (.int .i64 size) := by simp [World.cell?_alloc_at]
  obtain ⟨A, cap, rfl⟩ := hr.form
  clear hmx hr hT hA
  go_enter Tryz.func4, Tryz.ntmps4
  go_upto_region 1 with fail
  generalize w.alloc (.cells #[.string p.cells, .int .i64 p.side, .int .i64 p.clock, .int .i64 p.full, .int .i64 D, .slice A M.length cap, .int .i64 size] 31) = W1 at *
  have n1 : W1.heap.size ≠ w.heap.size := World.new_ne W1 _ x0
  go_cut [3, 4, 5, 6] from 15 to 22 (fun s3 s4 s5 s6 wx => ∃ pb : Nat, s3 = .pointer (some ⟨pb, 0, none⟩) ∧ s4 = .int .i64 D ∧ s5 = .slice A M.length cap ∧ s6 = .int .i64 size ∧ Aside0 (SbAt w wx p pb g (.slice A M.length cap) M))
  case first =>
    go_region_held3 (fun V => V.cell? ⟨w.heap.size, 0, none⟩ = some (.string p.cells) ∧ V.cell? ⟨w.heap.size, 1, none⟩ = some (.int .i64 p.side) ∧ V.cell? ⟨w.heap.size, 2, none⟩ = some (.int .i64 p.clock) ∧ V.cell? ⟨w.heap.size, 3, none⟩ = some (.int .i64 p.full) ∧ V.cell? ⟨w.heap.size, 4, none⟩ = some (.int .i64 D) ∧ V.cell? ⟨w.heap.size, 5, none⟩ = some (.slice A M.length cap) ∧ V.cell? ⟨w.heap.size, 6, none⟩ = some (.int .i64 size)) (go_keep) (fail)
    all_goals
      go_wp2_with fail
      go_meet
      first
      | exact ⟨_, rfl, rfl, rfl, rfl, ⟨BoxP.new W1.drew p, (H1.out.1.below (pw_below_drewN (Below.refl _ _) 1)).below (below_alloc (Below.refl _ _) _), below_new (below_drews H1.out.2 1) _⟩⟩
      | exact ⟨_, rfl, rfl, rfl, rfl, ⟨(BoxP.new W1 p).drew, (H1.out.1.below (below_alloc (Below.refl _ _) _)).below (pw_below_drewN (Below.refl _ _) 1), below_drews (below_new H1.out.2 _) 1⟩⟩
  case rest =>
  obtain ⟨pb, rfl, rfl, rfl, rfl, HP1⟩ := hcut
  clear x0 x1 x2 x3 x4 x5 x6 n1 H1
  obtain ⟨c0, c1, c2, c3⟩ := HP1.out.box
  go_wp2_with fail
  refine (HF.out _).mono ?_
  rintro e w2 ⟨b, rfl, hf, hb⟩
  have HP2 := Aside0.mk (HP1.out.below hb)
  have HFB := Aside0.mk hf
  clear hb hf c0 c1 c2 c3 HP1 HF
  cases b
  case false =>
    go_wp2_with (go_at_call 8; refine (HLV.out _ (HT.out _ HP2.out.bel)).mono ?_; rintro e w3 ⟨rfl, hb⟩; have HW3 := Aside0.mk (HP2.out.below hb).bel; clear hb)
    go_ret
    exact ⟨rfl, HW3.out⟩
  by_cases h60 : (60 : Int) < (M.length : Int)
  · go_wp2_with (go_at_call 8; refine (HLV.out _ (HT.out _ HP2.out.bel)).mono ?_; rintro e w3 ⟨rfl, hb⟩; have HW3 := Aside0.mk (HP2.out.below hb).bel; clear hb)
    go_ret
    exact ⟨rfl, HW3.out⟩
  obtain ⟨a, b, s, D', f, E, hbest, href⟩ := HBB.out (by omega) (HFB.out rfl)
  have HBA := Aside0.mk hbest
  have HBR := Aside0.mk href
  clear hbest href HBB HFB
  go_wp2_with fail
  refine (HTN.out _ (HT.out _ HP2.out.bel)).mono ?_
  rintro e w4 ⟨tv, x, S, rfl, htv, hS, hb⟩
  have HN := Aside0.mk (show w.heap.size ≤ w2.heap.size ∧ pb < w2.heap.size ∧ (M ≠ [] → g < w2.heap.size) from ⟨HP2.out.bel.size, World.block_lt_of_cell? w2 ⟨pb, 0, none⟩ HP2.out.box.c0, fun h => Nat.lt_of_lt_of_le (HGL.out h) HP2.out.bel.size⟩)
  have HP4 := Aside0.mk (And.intro (HP2.out.below hb) htv)
  have HSS := Aside0.mk hS
  have HSZ0 := Aside0.mk (Nat.le_refl w4.heap.size)
  clear hb htv hS HP2 HTN HGL
  obtain ⟨c0, c1, c2, c3⟩ := HP4.out.1.box
  go_wp2_with fail
  refine (HBA.out _ _ g S tv 0 (by decide) HP4.out.1.row (HT.out _ HP4.out.1.bel) HP4.out.2).mono ?_
  rintro e w5 ⟨rfl, hken, htv⟩
  have hn := below_alloc (Below.refl w5.heap.size w5) (.cells #[.int .i64 a, .int .i64 b, .int .i64 s, .int .i64 D', .bool f] 38)
  have HP6 := Aside0.mk (And.intro ((HP4.out.1.ken hken (fun k hk => (HSS.out k hk).1) HN.out.1 HN.out.2.1 HN.out.2.2).below hn) (htv.below hn))
  have R6 := Aside0.mk (BoxR.new w5 a b s D' f 38)
  have HRN := Aside0.mk (show ¬ S w5.heap.size from fun hs => by have h1 := (HSS.out _ hs).2; have h2 := hken.size; omega)
  have HSZ := Aside0.mk (show w4.heap.size ≤ (w5.alloc (.cells #[.int .i64 a, .int .i64 b, .int .i64 s, .int .i64 D', .bool f] 38)).heap.size from Nat.le_trans hken.size hn.size)
  clear hken htv hn c0 c1 c2 c3 HP4 HSZ0
  go_upto_region 6 with fail
  generalize w5.heap.size = b9 at *
  generalize w5.alloc (.cells #[.int .i64 a, .int .i64 b, .int .i64 s, .int .i64 D', .bool f] 38) = w6 at *
  obtain ⟨c0, c1, c2, c3⟩ := HP6.out.1.box
  go_wp2_with fail
  refine (HBR.out _ _ g HP6.out.1.row).mono ?_
  rintro e w7 ⟨rfl, hb⟩
  have hn := below_alloc (Below.refl w7.heap.size w7) (.cells #[.int .i64 a, .int .i64 b, .int .i64 s, .int .i64 D', .bool f] 41)
  have HP8 := Aside0.mk (And.intro ((HP6.out.1.below hb).below hn) ((HP6.out.2.below hb).below hn))
  have R8 := Aside0.mk (And.intro ((R6.out.below hb).below hn) (BoxR.new w7 a b s D' f 41))
  have HRM := Aside0.mk (show ¬ S w7.heap.size from fun hs => by
    have h1 := (HSS.out _ hs).2
    have h3 := hb.size
    have h4 := HSZ.out
    omega)
  clear hb hn c0 c1 c2 c3 HP6 R6
  go_upto_region 7 with fail
  generalize w7.heap.size = b11 at *
  generalize w7.alloc (.cells #[.int .i64 a, .int .i64 b, .int .i64 s, .int .i64 D', .bool f] 41) = w8 at *
  obtain ⟨c0, c1, c2, c3⟩ := HP8.out.1.box
  go_wp2_with fail
  refine (HBA.out _ _ g S tv (0 + 1000000) (by decide) HP8.out.1.row (HT.out _ HP8.out.1.bel) HP8.out.2).mono ?_
  rintro e w9 ⟨rfl, hken, htv⟩
  have hn := below_alloc (Below.refl w9.heap.size w9) (.cells #[.int .i64 a, .int .i64 b, .int .i64 s, .int .i64 D', .bool f] 38)
  have HP10 := Aside0.mk (((HP8.out.1.ken hken (fun k hk => (HSS.out k hk).1) HN.out.1 HN.out.2.1 HN.out.2.2).below hn).bel)
  have R10 := Aside0.mk (And.intro ((R8.out.1.ken hken HRN.out).below hn) (And.intro ((R8.out.2.ken hken HRM.out).below hn) (BoxR.new w9 a b s D' f 38)))
  clear hken htv hn c0 c1 c2 c3 HP8 R8
  go_upto_region 8 with fail
  generalize w9.heap.size = b13 at *
  generalize w9.alloc (.cells #[.int .i64 a, .int .i64 b, .int .i64 s, .int .i64 D', .bool f] 38) = w10 at *
  have p0 := fun z : BelowOf w10 => z.cell R10.out.1.r0
  have p1 := fun z : BelowOf w10 => z.cell R10.out.1.r1
  have p2 := fun z : BelowOf w10 => z.cell R10.out.1.r2
  have p3 := fun z : BelowOf w10 => z.cell R10.out.1.r3
  have p4 := fun z : BelowOf w10 => z.cell R10.out.1.r4
  have q0 := fun z : BelowOf w10 => z.cell R10.out.2.1.r0
  have q1 := fun z : BelowOf w10 => z.cell R10.out.2.1.r1
  have q2 := fun z : BelowOf w10 => z.cell R10.out.2.1.r2
  have q3 := fun z : BelowOf w10 => z.cell R10.out.2.1.r3
  have q4 := fun z : BelowOf w10 => z.cell R10.out.2.1.r4
  have r0 := fun z : BelowOf w10 => z.cell R10.out.2.2.r0
  have r1 := fun z : BelowOf w10 => z.cell R10.out.2.2.r1
  have r2 := fun z : BelowOf w10 => z.cell R10.out.2.2.r2
  have r3 := fun z : BelowOf w10 => z.cell R10.out.2.2.r3
  have r4 := fun z : BelowOf w10 => z.cell R10.out.2.2.r4
  refine wp_region_below (by kernel_rfl) ?_
  repeat (quiet_step (first
    | (go_at_call 14; exact BelowOf.calls (HTD.out a b s D' f _))
    | (go_at_call 8; exact BelowOf.calls (HLV.out _ (HT.out _ (below_go HP10.out (BelowOf.bel _)))))))
  refine wpQuiet_nil ?_
  rintro w11 ⟨⟨_, hb⟩, rfl⟩
  have HW11 := Aside0.mk (below_go HP10.out hb)
  clear hb p0 p1 p2 p3 p4 q0 q1 q2 q3 q4 r0 r1 r2 r3 r4 R10
  go_wp2_with fail
  go_ret
  exact ⟨rfl, HW11.out⟩
end Go.Proofs.YtafmapadkpjliaaGreatDoor.K

/- SearchBest's argument, out of a row's words: a position, a depth, a list of moves, a size. -/
namespace Go.Proofs.YtafmapadkpjliaaGreatDoor.K
open Go Go.RowKit Go.Lib Go.ChangeShapes Go.WideShapes Go.Proofs.YtafmapadkpjliaaGreatDoor.P Go.Proofs.YtafmapadkpjliaaGreatDoorW.PrintWords Go.Proofs.YtafmapadkpjliaaGreatDoor.Sp
set_option linter.unusedVariables false
set_option linter.unusedSimpArgs false
theorem add_spot22 (ad : Addr) (W : World) (v : Value) (h : W.cell? (ad.add 0) = some v) : ∃ g o, ad = ⟨g, o, none⟩ := by
  obtain ⟨g, o, s⟩ := ad
  cases s with
  | none => exact ⟨g, o, rfl⟩
  | some x =>
    exfalso
    simp only [World.cell?, Addr.add, if_true] at h
    split at h <;> simp at h
theorem add_at22 (g o k : Nat) : (⟨g, o, none⟩ : Addr).add k = ⟨g, o + k, none⟩ := by unfold Addr.add; split <;> simp_all
theorem row_of22 {W : World} {a : Option Addr} {len cap : Nat}
    (h : (a = none ∧ len = 0 ∧ cap = 0) ∨ ∃ ad, a = some ad ∧ len ≤ cap ∧ cap ≤ maxLen ∧ ∀ i, i < len → ∀ (j : Nat) (k : FK), [FK.int .i64, .int .i64][j]? = some k → ∃ c, W.cell? (ad.add (i * 2 + j)) = some c ∧ k.has c) :
    ∃ (M : List Mvi) (g : Nat), RowI W g (.slice a len cap) M := by
  rcases h with ⟨_, rfl, _⟩ | ⟨ad, rfl, hl, hm, hx⟩
  · exact ⟨[], 0, ⟨a, cap, rfl, .inl rfl⟩⟩
  by_cases h0 : len = 0
  · subst h0
    exact ⟨[], 0, ⟨_, cap, rfl, .inl rfl⟩⟩
  obtain ⟨c, hc, _⟩ := hx 0 (by omega) 0 _ rfl
  obtain ⟨g, o, rfl⟩ := add_spot22 _ _ _ hc
  have each : ∀ i, i < len → ∃ x : Mvi, W.cell? ⟨g, o + i * 2, none⟩ = some (.int .i64 x.frm) ∧ W.cell? ⟨g, o + i * 2 + 1, none⟩ = some (.int .i64 x.dest) := by
    intro i hi
    obtain ⟨c0, h0, n0, rfl, w0⟩ := hx i hi 0 _ rfl
    obtain ⟨c1, h1, n1, rfl, w1⟩ := hx i hi 1 _ rfl
    rw [add_at22] at h0 h1
    exact ⟨⟨n0, n1⟩, h0, h1⟩
  refine ⟨(List.range len).map (fun i => if h : i < len then Classical.choose (each i h) else ⟨0, 0⟩), g, ⟨some ⟨g, o, none⟩, cap, by simp, .inr ⟨o, rfl, fun i hi => ?_⟩⟩⟩
  have hi2 : i < len := by simpa using hi
  rw [List.getElem_map, List.getElem_range]
  simp only [hi2, dif_pos]
  exact Classical.choose_spec (each i hi2)
set_option maxRecDepth 100000 in
/-- The argument's cells. -/
theorem case_cells {H : Type} {enc : TypeId × Value → H} {w : World} {base : Nat} {spare : Nat → Bool} {held : Bool} {n : Nat} {cs : List Value} {x : DataW H × List MemPlace}
    (hx : DataW.trod enc Tryz.prog w base spare held n 31 cs = some x) :
    ∃ (s : ByteArray) (a b c d : Int) (A : Option Addr) (len cap : Nat) (e : Int), cs = [.string s, .int .i64 a, .int .i64 b, .int .i64 c, .int .i64 d, .slice A len cap, .int .i64 e] ∧ s.size ≤ maxLen ∧
      ((A = none ∧ len = 0 ∧ cap = 0) ∨ ∃ ad, A = some ad ∧ len ≤ cap ∧ cap ≤ maxLen ∧ ∀ i, i < len → ∀ (j : Nat) (k : FK), [FK.int .i64, .int .i64][j]? = some k → ∃ c, w.cell? (ad.add (i * 2 + j)) = some c ∧ k.has c) := by
  obtain ⟨xs, m, rfl, rfl, hlen, hxl, hf⟩ := DataW.trod_struct Tryz.underlying31 hx
  have hlen7 : cs.length = 7 := hlen.trans (by kernel_rfl)
  obtain ⟨c0, l0, rfl, hl0⟩ := list_cons hlen7
  obtain ⟨c1, l1, rfl, hl1⟩ := list_cons hl0
  obtain ⟨c2, l2, rfl, hl2⟩ := list_cons hl1
  obtain ⟨c3, l3, rfl, hl3⟩ := list_cons hl2
  obtain ⟨c4, l4, rfl, hl4⟩ := list_cons hl3
  obtain ⟨c5, l5, rfl, hl5⟩ := list_cons hl4
  obtain ⟨c6, l6, rfl, hl6⟩ := list_cons hl5
  obtain rfl := list_nil hl6
  have hxs : xs.length = 4 := hxl
  have e0 : Tryz.prog.cellsOf 23 = 4 := by kernel_rfl
  have e1 : Tryz.prog.cellsOf 3 = 1 := by kernel_rfl
  have e2 : Tryz.prog.cellsOf 29 = 1 := by kernel_rfl
  have f0 : DataW.trod enc Tryz.prog w base spare held m 23 [c0, c1, c2, c3] = some (xs[0]'(by omega)) := by
    have h := hf 0 _ rfl
    change DataW.trod enc Tryz.prog w base spare held m 23 (List.take (Tryz.prog.cellsOf 23) (List.drop 0 [c0, c1, c2, c3, c4, c5, c6])) = xs[0]? at h
    rw [e0, List.getElem?_eq_getElem (by omega)] at h
    exact h
  have f1 : DataW.trod enc Tryz.prog w base spare held m 3 [c4] = some (xs[1]'(by omega)) := by
    have h := hf 1 _ rfl
    change DataW.trod enc Tryz.prog w base spare held m 3 (List.take (Tryz.prog.cellsOf 3) (List.drop 4 [c0, c1, c2, c3, c4, c5, c6])) = xs[1]? at h
    rw [e1, List.getElem?_eq_getElem (by omega)] at h
    exact h
  have f2 : DataW.trod enc Tryz.prog w base spare held m 29 [c5] = some (xs[2]'(by omega)) := by
    have h := hf 2 _ rfl
    change DataW.trod enc Tryz.prog w base spare held m 29 (List.take (Tryz.prog.cellsOf 29) (List.drop 5 [c0, c1, c2, c3, c4, c5, c6])) = xs[2]? at h
    rw [e2, List.getElem?_eq_getElem (by omega)] at h
    exact h
  have f3 : DataW.trod enc Tryz.prog w base spare held m 3 [c6] = some (xs[3]'(by omega)) := by
    have h := hf 3 _ rfl
    change DataW.trod enc Tryz.prog w base spare held m 3 (List.take (Tryz.prog.cellsOf 3) (List.drop 6 [c0, c1, c2, c3, c4, c5, c6])) = xs[3]? at h
    rw [e1, List.getElem?_eq_getElem (by omega)] at h
    exact h
  obtain ⟨_, hp⟩ := flat_cells 8 23 [.str, .int .i64, .int .i64, .int .i64] (by kernel_rfl) _ _ _ f0
  obtain ⟨s, rfl, hs⟩ := hp 0 _ _ rfl rfl
  obtain ⟨a, rfl, _⟩ := hp 1 _ _ rfl rfl
  obtain ⟨b, rfl, _⟩ := hp 2 _ _ rfl rfl
  obtain ⟨c, rfl, _⟩ := hp 3 _ _ rfl rfl
  obtain ⟨_, hd⟩ := flat_cells 8 3 [.int .i64] (by kernel_rfl) _ _ _ f1
  obtain ⟨d, rfl, _⟩ := hd 0 _ _ rfl rfl
  obtain ⟨_, he⟩ := flat_cells 8 3 [.int .i64] (by kernel_rfl) _ _ _ f3
  obtain ⟨e, rfl, _⟩ := he 0 _ _ rfl rfl
  have hsl : ∃ A len cap, c5 = .slice A len cap := by
    rcases Deep.open_slice Tryz.underlying29 f2 with ⟨h0, _⟩ | ⟨ad, len', cap', m, n', D, Pl, h0, _⟩
    · exact ⟨none, 0, 0, by simpa using h0⟩
    · exact ⟨some ad, len', cap', by simpa using h0⟩
  obtain ⟨A, len, cap, rfl⟩ := hsl
  exact ⟨s, a, b, c, d, A, len, cap, e, rfl, hs, flat_slice (d := 8) (ks := [.int .i64, .int .i64]) Tryz.underlying29 (by kernel_rfl) (by kernel_rfl) f2⟩
end Go.Proofs.YtafmapadkpjliaaGreatDoor.K
