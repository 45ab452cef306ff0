/- Walks and plain laws that several statements lean on, joined: no statement of the seat is proved here. -/
import Derived.WalkKit
import Derived.Handy
import Derived.Deep.RegionHeld3
import Derived.StillTailTactics
import Derived.Test.YtllbkppdkldmiaaGreatDoorB4
import Derived.Test.YtllbkppdkldmiaaGreatDoorB2

/- Walks: reach's horse, chariot, cannon, way. -/
namespace Go.Proofs.YtllbkppdkldmiaaGreatDoor.K
open Go.RowKit Go.Lib Go.Proofs.YtllbkppdkldmiaaGreatDoorW.PrintWords Go.Proofs.YtllbkppdkldmiaaGreatDoorW.PrintLast Go.Proofs.YtllbkppdkldmiaaGreatDoorW.PrintMore Go.Proofs.YtllbkppdkldmiaaGreatDoor.Sp
set_option linter.unusedVariables false
set_option linter.unusedSimpArgs false
attribute [local go_sem] cel_get   -- for this text's walks alone
/-- What a round of the horse keeps. -/
structure HsAt (w0 W : World) (s : ByteArray) (a x g : Nat) (v : Value) (l : List Int) (bw : Nat) (d1 d2 : Int) : Prop where
  dr : DrAt w0 W s a x g v l
  b0 : W.cell? ⟨bw, 0, none⟩ = some (.int .i64 d1)
  b1 : W.cell? ⟨bw, 1, none⟩ = some (.int .i64 d2)
  far : ∀ k, v.ownBlock = some k → k ≠ bw
theorem HsAt.below {w0 W W' : World} {s : ByteArray} {a x g : Nat} {v : Value} {l : List Int} {bw : Nat} {d1 d2 : Int} (h : HsAt w0 W s a x g v l bw d1 d2) (hb : Below W.heap.size W W') : HsAt w0 W' s a x g v l bw d1 d2 :=
  ⟨h.dr.below hb, (hb.cell (p := ⟨bw, 0, none⟩) (World.block_lt_of_cell? W _ h.b0)).trans h.b0, (hb.cell (p := ⟨bw, 1, none⟩) (World.block_lt_of_cell? W _ h.b1)).trans h.b1, h.far⟩
theorem HsAt.drew {w0 W : World} {s : ByteArray} {a x g : Nat} {v : Value} {l : List Int} {bw : Nat} {d1 d2 : Int} (h : HsAt w0 W s a x g v l bw d1 d2) : HsAt w0 W.drew s a x g v l bw d1 d2 := h.below (pw_below_drewN (Below.refl _ _) 1)
theorem HsAt.new {w0 W : World} {s : ByteArray} {a x g : Nat} {v : Value} {l : List Int} (h : DrAt w0 W s a x g v l) (d1 d2 : Int) : HsAt w0 (W.alloc (.cells #[.int .i64 d1, .int .i64 d2] 119)) s a x g v l W.heap.size d1 d2 :=
  ⟨h.below (below_alloc (Below.refl _ _) _), by simp [World.cell?_alloc_at], by simp [World.cell?_alloc_at], fun k hk => by have := (h.own.lt k hk).2; omega⟩
/-- Two numbers are appended, in a region. -/
theorem step_app2 {ops : Array Oper} {o : Oper} {a : Act} {K : Act → World → Prop} {Q : Exit → Act → World → Prop} {E : Prop} (W : World) (hgd : o.guard = none) (s x : Operand)
    (ho : o.op = .call { callee := .builtin .append, args := #[s, x], argTypes := #[24, 24] }) (base : Nat) (v : Value) (xs : List Int) (y1 y2 : Int) (hs : a.eval s = v) (hx : a.eval x = .slice (some ⟨W.heap.size, 0, none⟩) 2 2)
    (hown : OwnZ W base v xs) (hlen : xs.length ≤ 8) (hbase : base ≤ W.heap.size)
    (h : ∀ g cap w', w'.ownsRow base 3 1 (.slice (some ⟨g, 0, none⟩) (xs.length + 2) cap) (xs.length + 2) (nums .i64 xs ++ nums .i64 [y1, y2]) → (W.alloc (.cells #[.int .i64 y1, .int .i64 y2] 3)).grownBy w' v.ownBlock → K (a.put o.dst (.slice (some ⟨g, 0, none⟩) (xs.length + 2) cap)) w') :
    if Region.wanted o (yielded ops a.tmps) = true then Oper.wp Tryz.prog o a (W.alloc (.cells #[.int .i64 y1, .int .i64 y2] 3)) K Q else E := by
  obtain ⟨i0, hi0, hx0⟩ := Option.map_eq_some_iff.1 info_intZ
  simp only [Prod.mk.injEq] at hx0
  exact step_append_lies _ hgd s x _ ho base 3 i0 _ 1 8 Tryz.underlying24 hi0 hx0.1 hx0.2.1 hx0.2.2 rfl (by omega) v xs.length (nums .i64 xs) hs (OwnZ.below hown (below_alloc (Below.refl _ _) _)) ⟨W.heap.size, 0, none⟩ 2 2 (nums .i64 [y1, y2]) hx rfl
    (World.news_of_block (cs := #[.int .i64 y1, .int .i64 y2]) (t := 3) (fr := (0, 0)) (heap_alloc_new _ _)) (fun u hu => by obtain ⟨z, _, rfl⟩ := List.mem_map.1 hu; rfl) (by omega) (by unfold maxLen; omega) (by omega) (by simp; omega) _ rfl
    (fun g cap w' h1 h2 _ _ => h g cap w' h1 h2)
theorem HsAt.appended {w0 W W' : World} {s : ByteArray} {a x g : Nat} {v : Value} {l : List Int} {bw : Nat} {d1 d2 : Int} (h : HsAt w0 W s a x g v l bw d1 d2) (o : Obj) (hg : (W.alloc o).grownBy W' v.ownBlock) (v' : Value) (ys : List Int) (hy : ys.length = 2) (ho : W'.ownsRow (g + 1) 3 1 v' (l.length + 2) (nums .i64 l ++ nums .i64 ys)) :
    DrAt w0 W' s a x g v' (l ++ ys) ∧ W'.cell? ⟨bw, 0, none⟩ = some (.int .i64 d1) ∧ W'.cell? ⟨bw, 1, none⟩ = some (.int .i64 d2) := by
  have h1 := h.below (below_alloc (Below.refl _ _) o)
  have hlt : bw < (W.alloc o).heap.size := World.block_lt_of_cell? _ _ h1.b0
  have hne : some bw ≠ v.ownBlock := fun he => h.far bw he.symm rfl
  have hz : g + 1 ≤ (W.alloc o).heap.size := h1.dr.dlt.2
  have HB7 := (Below.refl (g + 1) _).grown hg hz (fun k hk => (h.dr.own.lt k hk).1)
  refine ⟨h1.dr.keep HB7 ?_, (hg.cell_far ⟨bw, 0, none⟩ hlt hne).trans h1.b0, (hg.cell_far ⟨bw, 1, none⟩ hlt hne).trans h1.b1⟩
  unfold OwnZ
  rw [List.length_append, nums_append, hy]
  exact ho
theorem horse_len (s : ByteArray) (a : Nat) (i : Nat) (hi : i ≤ 4) : ((dirs.take i).flatMap (horseAdd s a)).length ≤ 8 := by
  have h2 : ∀ w, (horseAdd s a w).length ≤ 2 := fun w => by unfold horseAdd; split <;> simp [horseL]
  have a0 := h2 (1, 0); have a1 := h2 (-1, 0); have a2 := h2 (0, 1); have a3 := h2 (0, -1)
  match i, hi with
  | 0, _ | 1, _ | 2, _ | 3, _ | 4, _ => simp only [dirs, List.take_succ_cons, List.take_zero, List.flatMap_cons, List.flatMap_nil, List.length_append, List.length_nil]; omega
set_option maxRecDepth 100000 in
set_option maxHeartbeats 4000000 in
theorem vhorse_c (s : ByteArray) (hs : s.size = 90) (a x : Nat) (ha : a < 90) (w : World) : Calls Tryz.prog 124 #[vwV s a x] w fun e w' => ∃ v, e = .returned v ∧ OwnZ w' w.heap.size v (dirs.flatMap (horseAdd s a)) ∧ Below w.heap.size w w' := by
  have HS := Aside0.mk (fun (f r : Int) (h1 : -60 ≤ f ∧ f ≤ 60) (h2 : -60 ≤ r ∧ r ≤ 60) (W : World) => step_c s a x ha f r h1 h2 W)
  have HE := Aside0.mk (fun n W => empty_c s hs a x n W)
  obtain ⟨i0, hi0, hx0⟩ := Option.map_eq_some_iff.1 info_intZ
  simp only [Prod.mk.injEq] at hx0
  have HZ := Aside0.mk (⟨hi0, hx0⟩ : _ ∧ _)
  have hu := Tryz.underlying82
  clear hs ha hx0 hi0
  go_enter Tryz.func124, Tryz.ntmps124
  go_wp2_with fail
  have HD := Aside0.mk (dr_new w s a x)
  generalize ((w.alloc (.cells #[.string s, .int .i64 (a : Int), .int .u8 (x : Int)] 82)).alloc (.cells #[.int .i64 1, .int .i64 0, .int .i64 (-1), .int .i64 0, .int .i64 0, .int .i64 1, .int .i64 0, .int .i64 (-1)] 119)) = W2 at *
  have HD := Aside0.mk (show DrAt w W2 s a x (w.heap.size + 1) (.slice none 0 0) ((dirs.take 0).flatMap (horseAdd s a)) from HD.out)
  go_loopg [3, 5, 12] 4 (fun gg s3 _ s12 wr => ∃ i : Nat, s12 = .int .i64 (i : Int) ∧ i + gg = 4 ∧ Aside0 (DrAt w wr s a x (w.heap.size + 1) s3 ((dirs.take i).flatMap (horseAdd s a))))
  case atStart => exact ⟨0, rfl, by omega, HD⟩
  case round =>
    clear HD
    obtain ⟨i, rfl, hi, HD⟩ := hrel
    cases gk with
    | zero =>
      have hn : ¬ ((i : Int) < 4) := by omega
      have HI := Aside0.mk (show i = 4 by omega)
      clear hi
      go_wp2_with fail
      go_ret
      refine ⟨_, rfl, ?_, HD.out.vw.bel⟩
      have := HD.out.own.lower (B' := w.heap.size) (by omega)
      rw [HI.out] at this
      exact this
    | succ gk =>
      have hn : (i : Int) < 4 := by omega
      have hib : 0 ≤ (i : Int) := by omega
      have HI := Aside0.mk (show i + 1 + gk = 4 by omega)
      obtain ⟨hs1, hs2⟩ := dir_at i (by omega)
      obtain ⟨d, hd⟩ := Option.isSome_iff_exists.1 hs1
      obtain ⟨hm, k0, k1⟩ := hs2 d hd
      have x0 := HD.out.dir _ _ k0
      have x1 := HD.out.dir _ _ k1
      have HST := Aside0.mk (dirs_take (horseAdd s a) i d hd)
      have HAL := Aside0.mk (horse_len s a i (by omega))
      have HLA := Aside0.mk (show horseAdd s a d = if emptyZ s (stepN a d.1 d.2) = true then horseL a d else [] from rfl)
      generalize (dirs.take i).flatMap (horseAdd s a) = acc at *
      generalize horseAdd s a d = la at *
      obtain ⟨e1, e2, e3, e4⟩ := dir_small d hm
      obtain ⟨d1, d2⟩ := d
      simp only at x0 x1 HLA e1 e2 e3 e4
      clear hi hs1 hs2 hd hm k0 k1
      have HH0 := Aside0.mk (HsAt.new HD.out d1 d2)
      have hl1 : w.heap.size + 1 < wr.heap.size := HD.out.dlt.2
      go_wp2_with fail
      clear x0 x1 hl1 HD
      generalize wr.alloc (.cells #[.int .i64 d1, .int .i64 d2] 119) = W1 at *
      generalize wr.heap.size = bw at *
      have HH := Aside0.mk HH0.out.drew
      obtain ⟨c0, c1, c2, _⟩ := HH0.out.dr.vw
      have b0 := HH0.out.b0
      have b1 := HH0.out.b1
      clear HH0
      go_region_held3 (fun W => W.cell? ⟨w.heap.size, 0, none⟩ = some (.string s) ∧ W.cell? ⟨w.heap.size, 1, none⟩ = some (.int .i64 (a : Int)) ∧ W.cell? ⟨w.heap.size, 2, none⟩ = some (.int .u8 (x : Int)) ∧ W.cell? ⟨bw, 0, none⟩ = some (.int .i64 d1) ∧ W.cell? ⟨bw, 1, none⟩ = some (.int .i64 d2)) (go_keep)
        (first
          | (go_at_call 155; refine (HS.out _ _ (by omega) (by omega) _).mono ?_; rintro e w5 ⟨rfl, hb⟩; have HHn := Aside0.mk (HH.out.below hb); clear HH hb c0 c1 c2 b0 b1; have HH := HHn; clear HHn; obtain ⟨c0, c1, c2, _⟩ := HH.out.dr.vw; have b0 := HH.out.b0; have b1 := HH.out.b1)
          | (go_at_call 154; refine (HE.out _ _).mono ?_; rintro e w5 ⟨rfl, hb⟩; have HHn := Aside0.mk (HH.out.below hb); clear HH hb c0 c1 c2 b0 b1; have HH := HHn; clear HHn; obtain ⟨c0, c1, c2, _⟩ := HH.out.dr.vw; have b0 := HH.out.b0; have b1 := HH.out.b1))
      all_goals
        generalize emptyZ s (stepN a d1 d2) = bb at *
        cases bb
        · go_wp2_with fail
          go_roundg gk
          case measure => omega
          case rel =>
            refine ⟨i + 1, by go_num, by have := HI.out; omega, ⟨?_⟩⟩
            rw [HST.out, HLA.out, if_neg (by simp), List.append_nil]
            exact HH.out.dr
        · go_wp2_with fail
          have p0 : wrap64 (2 * d1) = 2 * d1 := by unfold wrap64; omega
          have q0 : IntKind.i64.wrap (2 * d1) = 2 * d1 := by rw [IntKind.wrap_i64]; omega
          have p1 : wrap64 (2 * d2) = 2 * d2 := by unfold wrap64; omega
          have q1 : IntKind.i64.wrap (2 * d2) = 2 * d2 := by rw [IntKind.wrap_i64]; omega
          have p2 : wrap64 (2 * d1 + d2) = 2 * d1 + d2 := by unfold wrap64; omega
          have q2 : IntKind.i64.wrap (2 * d1 + d2) = 2 * d1 + d2 := by rw [IntKind.wrap_i64]; omega
          have p3 : wrap64 (2 * d2 + d1) = 2 * d2 + d1 := by unfold wrap64; omega
          have q3 : IntKind.i64.wrap (2 * d2 + d1) = 2 * d2 + d1 := by rw [IntKind.wrap_i64]; omega
          have p4 : wrap64 (2 * d1 - d2) = 2 * d1 - d2 := by unfold wrap64; omega
          have q4 : IntKind.i64.wrap (2 * d1 - d2) = 2 * d1 - d2 := by rw [IntKind.wrap_i64]; omega
          have p5 : wrap64 (2 * d2 - d1) = 2 * d2 - d1 := by unfold wrap64; omega
          have q5 : IntKind.i64.wrap (2 * d2 - d1) = 2 * d2 - d1 := by rw [IntKind.wrap_i64]; omega
          have HHn := Aside0.mk HH.out.drew
          clear HH
          have HH := HHn
          clear HHn
          go_region_held3 (fun W => W.cell? ⟨w.heap.size, 0, none⟩ = some (.string s) ∧ W.cell? ⟨w.heap.size, 1, none⟩ = some (.int .i64 (a : Int)) ∧ W.cell? ⟨w.heap.size, 2, none⟩ = some (.int .u8 (x : Int)) ∧ W.cell? ⟨bw, 0, none⟩ = some (.int .i64 d1) ∧ W.cell? ⟨bw, 1, none⟩ = some (.int .i64 d2)) (go_keep)
            (first
              | (go_at_call 155; refine (HS.out _ _ (by omega) (by omega) _).mono ?_; rintro e w6 ⟨rfl, hb⟩; have HHn := Aside0.mk (HH.out.below hb); clear HH hb c0 c1 c2 b0 b1; have HH := HHn; clear HHn; obtain ⟨c0, c1, c2, _⟩ := HH.out.dr.vw; have b0 := HH.out.b0; have b1 := HH.out.b1)
              | (refine step_app2 _ (by rfl) _ _ (by rfl) (w.heap.size + 1 + 1) _ acc _ _ (by rfl) (by rfl) HH.out.dr.own HAL.out HH.out.dr.dlt.2 ?_; intro gg cap1 w7 hown1 hgrow; obtain ⟨hd7, b0', b1'⟩ := HH.out.appended _ hgrow _ (horseL a (d1, d2)) rfl hown1; have HD7 := Aside0.mk hd7; clear HH hd7 hown1 hgrow c0 c1 c2 b0 b1; obtain ⟨c0, c1, c2, _⟩ := HD7.out.vw))
          all_goals
            go_wp2_with fail
            go_roundg gk
            case measure => omega
            case rel =>
              refine ⟨i + 1, by go_num, by have := HI.out; omega, ⟨?_⟩⟩
              rw [HST.out, HLA.out]
              simp only [if_true]
              exact HD7.out
theorem vchariot_c (s : ByteArray) (hs : s.size = 90) (a x : Nat) (ha : a < 90) (w : World) : Calls Tryz.prog 125 #[vwV s a x] w fun e w' => ∃ v, e = .returned v ∧ OwnZ w' w.heap.size v (dirs.flatMap (lineAdd s a false)) ∧ Below w.heap.size w w' := by
  have HL := Aside0.mk (fun W => lines_c s hs a x ha false W)
  have hu := Tryz.underlying82
  go_enter Tryz.func125, Tryz.ntmps125
  go_wp2_with fail
  refine (HL.out _).mono ?_
  rintro e w1 ⟨v, rfl, h1, hb⟩
  have HR := Aside0.mk (And.intro (h1.lower (B' := w.heap.size) (by simp)) ((below_alloc (Below.refl w.heap.size w) _).trans (hb.mono (by simp))))
  clear h1 hb
  go_wp2_with fail
  go_ret
  exact ⟨_, rfl, HR.out.1, HR.out.2⟩
theorem vcannon_c (s : ByteArray) (hs : s.size = 90) (a x : Nat) (ha : a < 90) (w : World) : Calls Tryz.prog 126 #[vwV s a x] w fun e w' => ∃ v, e = .returned v ∧ OwnZ w' w.heap.size v (dirs.flatMap (lineAdd s a true)) ∧ Below w.heap.size w w' := by
  have HL := Aside0.mk (fun W => lines_c s hs a x ha true W)
  have hu := Tryz.underlying82
  go_enter Tryz.func126, Tryz.ntmps126
  go_wp2_with fail
  refine (HL.out _).mono ?_
  rintro e w1 ⟨v, rfl, h1, hb⟩
  have HR := Aside0.mk (And.intro (h1.lower (B' := w.heap.size) (by simp)) ((below_alloc (Below.refl w.heap.size w) _).trans (hb.mono (by simp))))
  clear h1 hb
  go_wp2_with fail
  go_ret
  exact ⟨_, rfl, HR.out.1, HR.out.2⟩
/-! ### way -/
def wayX (s : ByteArray) (a x : Nat) : List Int :=
  if kindN x = 75 then (kingL a).filter (mayZ x)
  else if kindN x = 65 then (fourL a 1).filter (mayZ x)
  else if kindN x = 66 then ((fourL a 2).filter (mayZ x)).filter (fun y => emptyZ s (halfZ a y))
  else if kindN x = 78 then dirs.flatMap (horseAdd s a)
  else if kindN x = 82 then dirs.flatMap (lineAdd s a false)
  else if kindN x = 67 then dirs.flatMap (lineAdd s a true)
  else if kindN x = 80 then pawnL (sideN x) a
  else []
theorem kind_side : ∀ x : Fin 256, kindN x.1 ≠ 0 → 0 ≤ sideN x.1 := by decide +kernel
theorem kinds8 : ∀ x : Fin 256, kindN x.1 = 75 ∨ kindN x.1 = 65 ∨ kindN x.1 = 66 ∨ kindN x.1 = 78 ∨ kindN x.1 = 82 ∨ kindN x.1 = 67 ∨ kindN x.1 = 80 ∨ kindN x.1 = 0 := by decide +kernel
set_option maxRecDepth 100000 in
set_option maxHeartbeats 2000000 in
theorem way_c (s : ByteArray) (hs : s.size = 90) (a x : Nat) (ha : a < 90) (hx : x < 256) (w : World) : Calls Tryz.prog 98 #[vwV s a x] w fun e w' => ∃ v, e = .returned v ∧ OwnZ w' w.heap.size v (wayX s a x) ∧ Below w.heap.size w w' := by
  have HK := Aside0.mk (fun W => kind_c x hx W)
  have H1 := Aside0.mk (fun W => general_c s a x ha hx W)
  have H2 := Aside0.mk (fun W => vadvisor_c s a x ha hx W)
  have H3 := Aside0.mk (fun W => velephant_c s hs a x ha hx W)
  have H4 := Aside0.mk (fun W => vhorse_c s hs a x ha W)
  have H5 := Aside0.mk (fun W => vchariot_c s hs a x ha W)
  have H6 := Aside0.mk (fun W => vcannon_c s hs a x ha W)
  have H7 := Aside0.mk (fun (h : 0 ≤ sideN x) W => vpawn_c s a x ha hx h W)
  have HSI := Aside0.mk (kind_side ⟨x, hx⟩)
  have hk := kinds8 ⟨x, hx⟩
  unfold wayX
  simp only at hk HSI
  have HB := Aside0.mk (VwAt.new w s a x)
  have hu := Tryz.underlying82
  clear hs ha hx
  generalize kindN x = kd at *
  have hall : ∀ (l : List Int) (f : Nat), (∀ W, Calls Tryz.prog f #[vwV s a x] W fun e w' => ∃ v, e = .returned v ∧ OwnZ w' W.heap.size v l ∧ Below W.heap.size W w') → ∀ W, VwAt w W s a x → Calls Tryz.prog f #[vwV s a x] W fun e w' => ∃ v, e = .returned v ∧ Aside0 (OwnZ w' w.heap.size v l ∧ Below w.heap.size w w') := by
    intro l f h W hV
    refine (h W).mono ?_
    rintro e w' ⟨v, rfl, h1, h2⟩
    exact ⟨v, rfl, ⟨h1.lower hV.bel.size, hV.bel.trans (h2.mono hV.bel.size)⟩⟩
  have HALL := Aside0.mk hall
  clear hall
  rcases hk with rfl | rfl | rfl | rfl | rfl | rfl | rfl | rfl
  all_goals
    simp only [if_true, if_false, reduceCtorEq, Nat.reduceEqDiff]
    go_enter Tryz.func98, Tryz.ntmps98
    go_wp2_with (first | (go_at_call 104; refine (HK.out _).mono ?_; rintro e w1 ⟨rfl, rfl⟩) | (go_at_call 121; refine (HALL.out _ _ H1.out _ HB.out).mono ?_; rintro e w2 ⟨v, rfl, HR⟩) | (go_at_call 122; refine (HALL.out _ _ H2.out _ HB.out).mono ?_; rintro e w2 ⟨v, rfl, HR⟩) | (go_at_call 123; refine (HALL.out _ _ H3.out _ HB.out).mono ?_; rintro e w2 ⟨v, rfl, HR⟩) | (go_at_call 124; refine (HALL.out _ _ H4.out _ HB.out).mono ?_; rintro e w2 ⟨v, rfl, HR⟩) | (go_at_call 125; refine (HALL.out _ _ H5.out _ HB.out).mono ?_; rintro e w2 ⟨v, rfl, HR⟩) | (go_at_call 126; refine (HALL.out _ _ H6.out _ HB.out).mono ?_; rintro e w2 ⟨v, rfl, HR⟩) | (go_at_call 127; refine (HALL.out _ _ (H7.out (HSI.out (by omega))) _ HB.out).mono ?_; rintro e w2 ⟨v, rfl, HR⟩))
    go_ret
    first
    | exact ⟨_, rfl, HR.out.1, HR.out.2⟩
    | exact ⟨_, rfl, own_znil _ _, HB.out.bel⟩
end Go.Proofs.YtllbkppdkldmiaaGreatDoor.K

/- Walks: reach.All. -/
namespace Go.Proofs.YtllbkppdkldmiaaGreatDoor.K
open Go.RowKit Go.Lib Go.Proofs.YtllbkppdkldmiaaGreatDoorW.PrintWords Go.Proofs.YtllbkppdkldmiaaGreatDoorW.PrintLast Go.Proofs.YtllbkppdkldmiaaGreatDoorW.PrintMore Go.Proofs.YtllbkppdkldmiaaGreatDoor.Sp
set_option linter.unusedVariables false
set_option linter.unusedSimpArgs false
attribute [local go_sem] cel_get   -- for this text's walks alone
theorem all_closure (s : ByteArray) (hs : s.size = 90) (pc : Nat) (hp : pc < 256) (y : Int) (B1 B2 : Nat) (W : World) (h1 : W.cell? ⟨B1, 0, none⟩ = some (.string s)) (h2 : W.cell? ⟨B2, 0, none⟩ = some (.int .u8 (pc : Int))) :
    Calls Tryz.prog 99 (#[.int .i64 y] ++ #[.pointer (some ⟨B1, 0, none⟩), .pointer (some ⟨B2, 0, none⟩)]) W fun e W' => e = .returned (.bool (badZ s pc y)) ∧ Below W.heap.size W W' := by
  show Calls Tryz.prog 99 #[.int .i64 y, .pointer (some ⟨B1, 0, none⟩), .pointer (some ⟨B2, 0, none⟩)] W _
  have HI := Aside0.mk (fun W => isq_c y W)
  by_cases h : 0 ≤ y ∧ y < 90
  · have HSA := Aside0.mk (fun W => side_c (cel s y.toNat) (cel_lt s _) W)
    have HSB := Aside0.mk (fun W => side_c pc hp W)
    have HE := Aside0.mk (show badZ s pc y = (sideN (cel s y.toNat) == sideN pc) by unfold badZ; rw [decide_eq_true h]; rfl)
    rw [decide_eq_true h] at HI
    have h0 := h.1
    have h9 : y < (s.size : Int) := by rw [hs]; exact h.2
    generalize sideN pc = sp at *
    generalize sideN (cel s y.toNat) = sy at *
    clear h hs hp
    go_enter Tryz.func99, Tryz.ntmps99
    go_wp2_with fail
    go_quiet (first | (go_at_call 94; exact Calls.quiet_of_same (HI.out _)) | (go_at_call 26; (with_reducible exact Calls.quiet_of_same (HSA.out _))) | (go_at_call 26; (with_reducible exact Calls.quiet_of_same (HSB.out _))))
    go_wp2_with fail
    go_ret
    exact ⟨ret_bool HE.out.symm, pw_below_drewN (Below.refl _ _) _⟩
  · have HE := Aside0.mk (show badZ s pc y = true by unfold badZ; rw [decide_eq_false h]; rfl)
    rw [decide_eq_false h] at HI
    clear h hs hp
    go_enter Tryz.func99, Tryz.ntmps99
    go_wp2_with fail
    go_quiet (first | (go_at_call 94; exact Calls.quiet_of_same (HI.out _)))
    go_wp2_with fail
    go_ret
    exact ⟨ret_bool HE.out.symm, pw_below_drewN (Below.refl _ _) _⟩
/-- Numbers in a row that the call made, from block B on. -/
structure IntsAt (W : World) (B : Nat) (v : Value) (l : List Nat) : Prop where mk ::
  out : ∃ A cap, v = .slice A l.length cap ∧ l.length ≤ cap ∧ (l = [] ∨ ∃ g, A = some ⟨g, 0, none⟩ ∧ B ≤ g ∧ g < W.heap.size ∧ ∀ i (h : i < l.length), W.cell? ⟨g, i, none⟩ = some (.int .i64 (l[i] : Int)))
theorem IntsAt.below {W W' : World} {B : Nat} {v : Value} {l : List Nat} (h : IntsAt W B v l) (hb : Below W.heap.size W W') : IntsAt W' B v l := by
  obtain ⟨A, cap, hv, hc, h⟩ := h.out
  refine ⟨A, cap, hv, hc, ?_⟩
  rcases h with h | ⟨g, hA, hB, hg, hx⟩
  · exact .inl h
  · exact .inr ⟨g, hA, hB, Nat.lt_of_lt_of_le hg hb.size, fun i hi => (hb.cell (p := ⟨g, i, none⟩) hg).trans (hx i hi)⟩
def allS (s : ByteArray) (a : Int) : List Nat := if isBoard s = true ∧ 0 ≤ a ∧ a < 90 then allN (cel s) a.toNat else []
theorem ints_of {W : World} {B : Nat} {v : Value} {l : List Nat} (h : OwnZ W B v (ints l)) : IntsAt W B v l := by
  have hlen : (ints l).length = l.length := by simp [ints]
  obtain ⟨hx, ⟨h0, h1⟩ | ⟨g, cap, cur, h0, hb, hg, hn, hc, hs, ht⟩⟩ := h
  · rw [hlen] at h1
    exact ⟨none, 0, by rw [h0, h1], by omega, .inl (List.length_eq_zero_iff.1 h1)⟩
  · rw [hlen] at h0 hn ht
    refine ⟨_, cap, h0, hn, .inr ⟨g, rfl, hb, blk_lt hg, ?_⟩⟩
    intro i hi
    have e : (nums .i64 (ints l))[i]? = some (.int .i64 (l[i] : Int)) := by
      simp [nums, ints, hi]
    rw [← ht, List.getElem?_take] at e
    split at e
    · simp only [World.cell?, hg]
      simpa using e
    · cases e
theorem way_no (s : ByteArray) (a : Int) (w : World) : Calls Tryz.prog 98 #[.agg #[.string s, .int .i64 a, .int .u8 46]] w fun e w' => e = .returned (.slice none 0 0) ∧ Below w.heap.size w w' := by
  have HK := kind_c 46 (by omega)
  rw [show kindN 46 = 0 from rfl] at HK
  have HK := Aside0.mk HK
  have HB := Aside0.mk (below_alloc (Below.refl w.heap.size w) (.cells #[.string s, .int .i64 a, .int .u8 46] 82))
  have hu := Tryz.underlying82
  go_enter Tryz.func98, Tryz.ntmps98
  go_wp2_with (go_at_call 104; refine (HK.out _).mono ?_; rintro e w1 ⟨rfl, rfl⟩)
  go_ret
  exact ⟨rfl, HB.out⟩
/-- slices.DeleteFunc over All's closure. -/
theorem all_del (s : ByteArray) (hs : s.size = 90) (pc : Nat) (hp : pc < 256) (B1 B2 : Nat) (h12 : B1 < B2) (v : Value) (l : List Int) (W : World) (c1 : W.cell? ⟨B1, 0, none⟩ = some (.string s)) (c2 : W.cell? ⟨B2, 0, none⟩ = some (.int .u8 (pc : Int))) (ho : OwnZ W (B2 + 1) v l) :
    Calls Tryz.prog 55 #[v, .func (.func 99) #[] #[.pointer (some ⟨B1, 0, none⟩), .pointer (some ⟨B2, 0, none⟩)]] W fun e w' => ∃ v', e = .returned v' ∧ OwnZ w' (B2 + 1) v' (l.filter (fun y => !badZ s pc y)) ∧ Below (B2 + 1) W w' :=
  del_Z 99 #[.pointer (some ⟨B1, 0, none⟩), .pointer (some ⟨B2, 0, none⟩)] (badZ s pc) (enters_of Tryz.func99 (by kernel_rfl) rfl) (B2 + 1) v l W (World.block_lt_of_cell? W _ c2) ho (by
    intro b hb _ _ W2 y hy hk
    have key : ∀ g : Nat, g < W.heap.size → g ≠ b → W2.cell? ⟨g, 0, none⟩ = W.cell? ⟨g, 0, none⟩ := fun g hg hne => by
      have := hk.2 g hg hne (by simp)
      unfold World.cell?; simp only [this]
    exact all_closure s hs pc hp y B1 B2 W2 ((key B1 (World.block_lt_of_cell? W _ c1) (by omega)).trans c1) ((key B2 (World.block_lt_of_cell? W _ c2) (by omega)).trans c2))
/-- What All holds of its boxes. -/
structure AlAt (w0 W : World) (s : ByteArray) (pc : Nat) (B2 : Nat) : Prop where
  c1 : W.cell? ⟨w0.heap.size, 0, none⟩ = some (.string s)
  c2 : W.cell? ⟨B2, 0, none⟩ = some (.int .u8 (pc : Int))
  lt : w0.heap.size < B2
  bel : Below w0.heap.size w0 W
theorem AlAt.blt {w0 W : World} {s : ByteArray} {pc B2 : Nat} (h : AlAt w0 W s pc B2) : B2 < W.heap.size := World.block_lt_of_cell? W _ h.c2
theorem AlAt.keep {w0 W W' : World} {s : ByteArray} {pc B2 : Nat} (h : AlAt w0 W s pc B2) {B : Nat} (hB : B2 < B) (hb : Below B W W') : AlAt w0 W' s pc B2 :=
  ⟨(hb.cell (p := ⟨w0.heap.size, 0, none⟩) (Nat.lt_trans h.lt hB)).trans h.c1, (hb.cell (p := ⟨B2, 0, none⟩) hB).trans h.c2, h.lt, h.bel.trans (hb.mono (by have := h.lt; omega))⟩
theorem AlAt.below {w0 W W' : World} {s : ByteArray} {pc B2 : Nat} (h : AlAt w0 W s pc B2) (hb : Below W.heap.size W W') : AlAt w0 W' s pc B2 := h.keep h.blt hb
theorem AlAt.new {w0 W : World} {s : ByteArray} (h1 : W.cell? ⟨w0.heap.size, 0, none⟩ = some (.string s)) (hb : Below w0.heap.size w0 W) (pc : Nat) : AlAt w0 (W.alloc (.cells #[.int .u8 (pc : Int)] 5)) s pc W.heap.size := by
  have hlt := World.block_lt_of_cell? W _ h1
  exact ⟨((below_alloc (Below.refl W.heap.size W) _).cell (p := ⟨w0.heap.size, 0, none⟩) hlt).trans h1, by simp [World.cell?_alloc_at], hlt, below_alloc hb _⟩
set_option maxHeartbeats 2000000 in
theorem all_c (s : ByteArray) (a : Int) (w : World) : Calls Tryz.prog 66 #[.string s, .int .i64 a] w fun e w' => ∃ v, e = .returned v ∧ IntsAt w' w.heap.size v (allS s a) ∧ Below w.heap.size w w' := by
  have HAT := Aside0.mk (fun W => at_c s a W)
  by_cases hin : isBoard s = true ∧ 0 ≤ a ∧ a < 90
  case neg =>
    rw [show atS s a = 46 by unfold atS; rw [if_neg hin]] at HAT
    rw [show allS s a = [] by unfold allS; rw [if_neg hin]]
    have HWY := Aside0.mk (fun W => way_no s a W)
    clear hin
    go_enter Tryz.func66, Tryz.ntmps66
    go_wp2_with fail
    refine (HAT.out _).mono ?_
    rintro e w1 ⟨rfl, hb⟩
    have HB1 := Aside0.mk ((below_alloc (Below.refl w.heap.size w) (.cells #[.string s] 9)).trans (hb.mono (by simp)))
    have hc1 : w1.cell? ⟨w.heap.size, 0, none⟩ = some (.string s) := (hb.cell (p := ⟨w.heap.size, 0, none⟩) (by simp)).trans (by simp [World.cell?_alloc_at])
    clear hb
    have HA1 := Aside0.mk (AlAt.new hc1 HB1.out 46)
    have hlt : w.heap.size < w1.heap.size := World.block_lt_of_cell? _ _ hc1
    have hu := Tryz.underlying82
    go_wp2_with fail
    refine (HWY.out _).mono ?_
    rintro e w2 ⟨rfl, hb⟩
    have HA2 := Aside0.mk (HA1.out.below hb)
    clear hb HA1 HB1 hc1 hlt
    go_wp2_with (go_at_call 55; refine (del_nil none 0 _ _).mono ?_; rintro e w3 ⟨rfl, rfl⟩)
    refine (sort_Z w3.heap.size _ [] w3 (by simp) (own_znil _ _)).mono ?_
    rintro e w4 ⟨rfl, h4, hb⟩
    have HA4 := Aside0.mk (HA2.out.below hb)
    clear hb h4 HA2
    go_wp2_with fail
    refine (compact_Z w4.heap.size _ [] w4 (own_znil _ _)).mono ?_
    rintro e w5 ⟨v, rfl, h5, hb⟩
    have HA5 := Aside0.mk (HA4.out.below hb)
    have HO5 := Aside0.mk (h5.lower HA4.out.bel.size)
    clear hb h5 HA4
    go_wp2_with fail
    go_ret
    exact ⟨_, rfl, ints_of (l := []) HO5.out, HA5.out.bel⟩
  obtain ⟨hbd, h0, h9⟩ := hin
  obtain ⟨n, rfl⟩ : ∃ n : Nat, a = n := ⟨a.toNat, by omega⟩
  have hn : n < 90 := by omega
  have hs := board_size hbd
  rw [show atS s (n : Int) = cel s n by unfold atS; rw [if_pos ⟨hbd, h0, h9⟩]; rfl] at HAT
  rw [show allS s (n : Int) = allN (cel s) n by unfold allS; rw [if_pos ⟨hbd, h0, h9⟩]; rfl]
  have hx := cel_lt s n
  have HWY := Aside0.mk (fun W => way_c s hs n (cel s n) hn hx W)
  rw [show wayX s n (cel s n) = wayZ s n from rfl] at HWY
  have HALL := Aside0.mk (all_sorted s n hn)
  have hlen : (wayZ s n).length ≤ 1000 := by
    by_cases h : 0 ≤ sideN (cel s n)
    · exact (way_ok s n hn h).2.2
    · rw [way_none s n (by omega)]; simp
  have HLEN := Aside0.mk (show ((wayZ s n).filter (fun y => !badZ s (cel s n) y)).length < 4611686018427387904 from Nat.lt_of_le_of_lt (List.length_filter_le _ _) (by omega))
  have HCL := Aside0.mk (fun (y : Int) (B1 B2 : Nat) (W : World) h1 h2 => all_closure s hs (cel s n) hx y B1 B2 W h1 h2)
  generalize wayZ s n = l at *
  generalize cel s n = pc at *
  have HDL := Aside0.mk (fun (B1 B2 : Nat) (h12 : B1 < B2) (v : Value) (W : World) c1 c2 ho => all_del s hs pc hx B1 B2 h12 v l W c1 c2 ho)
  generalize hfl : l.filter (fun y => !badZ s pc y) = fl at *
  clear hbd h0 h9 hn hs hx hlen hfl
  go_enter Tryz.func66, Tryz.ntmps66
  go_wp2_with fail
  refine (HAT.out _).mono ?_
  rintro e w1 ⟨rfl, hb⟩
  have HB1 := Aside0.mk ((below_alloc (Below.refl w.heap.size w) (.cells #[.string s] 9)).trans (hb.mono (by simp)))
  have hc1 : w1.cell? ⟨w.heap.size, 0, none⟩ = some (.string s) := (hb.cell (p := ⟨w.heap.size, 0, none⟩) (by simp)).trans (by simp [World.cell?_alloc_at])
  clear hb
  have HA1 := Aside0.mk (AlAt.new hc1 HB1.out pc)
  have hlt : w.heap.size < w1.heap.size := World.block_lt_of_cell? _ _ hc1
  have hu := Tryz.underlying82
  go_wp2_with fail
  refine (HWY.out _).mono ?_
  rintro e w2 ⟨v2, rfl, h2, hb⟩
  have HA2 := Aside0.mk (HA1.out.below hb)
  have HO2 := Aside0.mk (h2.lower (B' := w1.heap.size + 1) (by simp))
  clear hb h2 HA1 HB1 hc1 hlt
  go_wp2_with fail
  refine (HDL.out _ _ HA2.out.lt _ _ HA2.out.c1 HA2.out.c2 HO2.out).mono ?_
  rintro e w3 ⟨v3, rfl, h3, hb⟩
  have HA3 := Aside0.mk (HA2.out.keep (by omega) hb)
  have HO3 := Aside0.mk h3
  clear hb h3 HA2 HO2
  go_wp2_with fail
  refine (sort_Z _ _ _ _ HLEN.out HO3.out).mono ?_
  rintro e w4 ⟨rfl, h4, hb⟩
  have HA4 := Aside0.mk (HA3.out.keep (by omega) hb)
  have HO4 := Aside0.mk h4
  clear hb h4 HA3 HO3
  go_wp2_with fail
  refine (compact_Z _ _ _ _ HO4.out).mono ?_
  rintro e w5 ⟨v5, rfl, h5, hb⟩
  rw [HALL.out] at h5
  have HA5 := Aside0.mk (HA4.out.keep (by omega) hb)
  have HO5 := Aside0.mk h5
  clear hb h5 HA4 HO4
  go_wp2_with fail
  go_ret
  exact ⟨_, rfl, ints_of (HO5.out.lower (by have := HA5.out.lt; omega)), HA5.out.bel⟩
end Go.Proofs.YtllbkppdkldmiaaGreatDoor.K

/- reach.All, walked compactly: what stands behind it. -/
namespace Go.Proofs.YtllbkppdkldmiaaGreatDoor.K
end Go.Proofs.YtllbkppdkldmiaaGreatDoor.K

/- Walks: a set's iterator, gathered into a list (3): AppendSeq, Collect, List. -/
namespace Go.Proofs.YtllbkppdkldmiaaGreatDoor.K
open Go.RowKit Go.Lib Go.Shelf Go.Maps Go.Sort Go.Proofs.YtllbkppdkldmiaaGreatDoorW.PrintWords Go.Proofs.YtllbkppdkldmiaaGreatDoor.Sp
set_option linter.unusedVariables false
set_option linter.unusedSimpArgs false
/-- The iterator's value. -/
abbrev svZ (Bm : Nat) : Value := .func (.func 145) #[] #[.pointer (some ⟨Bm, 0, none⟩)]
set_option maxRecDepth 100000 in
set_option maxHeartbeats 2000000 in
theorem append_s (f : Nat → Bool) (n : Nat) (hn : 2 ≤ n) (w00 w : World) (Bm : Nat) (hT : TabW w00) (hb00 : Below w00.heap.size w00 w) (hm : w00.heap.size ≤ Bm) (hbx : BoxAt Bm (loB f) (hiB f) w) :
    CallsIn Fence.wide n Tryz.prog (renZ.f 11) #[.slice none 0 0, svZ Bm] w fun e w' => ∃ (v : Value), e = .returned v ∧ w'.ownsRow w.heap.size (renZ.t 26) 1 v (memL f).length ((toI (memL f)).map encZ) ∧ (v = .slice none 0 0 ↔ memL f = []) ∧ Below w00.heap.size w00 w' := by
  have L : SlLaysZI.n11 Tryz.prog renZ := { laysZ with }
  have hro : Fence.wide.round = none := rfl
  have h1 : 1 ≤ n := by omega
  have mixed := L.mixed; have t0 := L.t0; have a0 := L.a0; have z0 := L.z0; have v0 := L.v0; have t24 := L.t24; have a24 := L.a24; have z24 := L.z24; have v24 := L.v24; have t26 := L.t26; have a26 := L.a26; have z26 := L.z26; have v26 := L.v26; have t28 := L.t28; have a28 := L.a28; have z28 := L.z28; have v28 := L.v28
  have hne : renZ.t 24 ≠ renZ.t 26 := fun e => by have h := L.t24; rw [e, L.t26] at h; cases h
  have u0 := run_underlying L.t0; have u24 := run_underlying L.t24; have u26 := run_underlying L.t26; have u28 := run_underlying L.t28
  obtain ⟨_, _, FG⟩ := L.f11
  refine callsIn_of_wp_marks FG rfl trivial ?_ hro
  simp only [SlBodyZ.n11_ntmps renZ, List.size_toArray, List.length_cons, List.length_nil, Nat.reduceAdd, Nat.reduceSub, Array.replicate_succ, Array.replicate_zero, List.push_toArray, List.append_toArray, List.nil_append, List.cons_append]
  gi_wp2
  refine wpIn_rangeFunc ?_
  intro fn hfn
  rw [hro]
  obtain ⟨W0, hW0⟩ : ∃ W0, w.alloc (.cells #[.slice none 0 0] (renZ.t 24)) = W0 := ⟨_, rfl⟩
  have hs0 : W0.heap.size = w.heap.size + 1 := by rw [← hW0]; simp
  have hv0 : W0.heap[w.heap.size]? = some (.cells #[.slice none 0 0] (renZ.t 24) (0, 0)) := by rw [← hW0]; exact World.alloc_heap_new w _
  have hb0 : Below w.heap.size w W0 := by rw [← hW0]; exact (Below.refl _ w).alloc (Nat.le_refl _) _
  rw [hW0]
  obtain ⟨W1, hW1⟩ : ∃ W1, (W0.alloc (.deferred (some []))).alloc (.loop (AnyZI.apRec renZ fn (svZ Bm) w.heap.size W0.heap.size .ready none)) = W1 := ⟨_, rfl⟩
  have hold : ∀ k, k < W0.heap.size → W1.heap[k]? = W0.heap[k]? := fun k hk => by
    rw [← hW1]; exact (Below.heap_alloc _ _ k (by simp; omega)).trans (Below.heap_alloc _ _ k hk)
  have hb1 : Below w.heap.size w W1 := by rw [← hW1]; exact (hb0.alloc hb0.size _).alloc (by have := hb0.size; simp; omega) _
  have hs1 : W1.heap.size = W0.heap.size + 2 := by rw [← hW1]; simp
  have hM : AnyZI.ApAt renZ w fn (svZ Bm) w.heap.size (W0.heap.size + 1) W0.heap.size [] W1 :=
    ⟨⟨_, (hold w.heap.size (by omega)).trans hv0, ⟨rfl, .inl ⟨rfl, rfl⟩⟩, by simp⟩,
     by rw [← hW1]; have := World.alloc_heap_new (W0.alloc (.deferred (some []))) (.loop (AnyZI.apRec renZ fn (svZ Bm) w.heap.size W0.heap.size .ready none)); rwa [World.size_alloc] at this,
     by rw [← hW1]; exact (Below.heap_alloc _ _ _ (by simp)).trans (World.alloc_heap_new W0 _), hb1⟩
  have eg : ∀ args w, (callFunc 145 args).run Tryz.prog w = .ok (.enter 145 args) w := enters_of Tryz.func145 (by kernel_rfl) rfl
  have hJ : JAt w00 w.heap.size Bm fn (svZ Bm) w.heap.size (W0.heap.size + 1) W0.heap.size (loB f) (hiB f) [] W1 := ⟨w, rfl, hb00, hbx, hM⟩
  refine ⟨W0.heap.size + 1, [{ target := .collected W0.heap.size, args := #[] }], W1, { target := .fn (.func 145) #[.pointer (some ⟨Bm, 0, none⟩)], args := #[.func (.yield (W0.heap.size + 1)) #[] #[]] }, W1, 145,
    #[.func (.yield (W0.heap.size + 1)) #[] #[], .pointer (some ⟨Bm, 0, none⟩)], W1, ?_, ?_, ?_, ?_, fun _ => h1, ?_⟩
  · rw [← hW1]; exact run_enterLoop_outer _ _ _ _ _
  · simp [resolve, go_sem]
  · intro f' hf'; trivial
  · simp [invoke, go_sem, eg]
  · refine (each1_in f (n - 1) (by omega) w00 hT w.heap.size Bm fn (svZ Bm) w.heap.size (W0.heap.size + 1) W0.heap.size hm (by omega) (by omega) (by omega) (by omega) (by omega) (by omega) W1 hJ).mono ?_
    rintro e W2 ⟨⟨v0, rfl⟩, a, b, w0', hs', hb', hx', h2⟩
    obtain ⟨v, hv, hrow, hnil⟩ := h2.box
    have hend := run_endLoop (P := Tryz.prog) h2.L (by simp [AnyZI.apRec])
    obtain ⟨W3, hW3⟩ : ∃ W3, W2.putObj (W0.heap.size + 1) (.loop { AnyZI.apRec renZ fn (svZ Bm) w.heap.size W0.heap.size .ready none with state := .exhausted }) = W3 := ⟨_, rfl⟩
    rw [hW3] at hend
    have hg3 : W2.grownBy W3 (some (W0.heap.size + 1)) := by rw [← hW3]; exact grownBy_putObj_a _ _ _
    have hv3 : W3.heap[w.heap.size]? = some (.cells #[v] (renZ.t 24) (0, 0)) := by rw [← hW3]; exact (World.putObj_heap_other (by omega)).trans hv
    have hK3 : W3.heap[W0.heap.size]? = some (.deferred (some [])) := by rw [← hW3]; exact (World.putObj_heap_other (by omega)).trans h2.K
    have hrow3 := hrow.kept hg3 (ownsRow_ne_a hrow h2.L (fun cur e => by first | cases e | exact hne (Obj.cells.inj e).2.1))
    have hb3 : Below w0'.heap.size w0' W3 := h2.below.grown hg3 h2.below.size (fun k e => by cases e; omega)
    obtain ⟨hc3, hf3⟩ := cell_of_box_a hv3
    clear hW3
    refine ⟨none, W3, hend, ?_⟩
    gi_wp2
    rw [← hs0]
    refine ⟨by simp, .inl ⟨_, _, rfl, run_takeDeferred hK3, ?_⟩⟩
    rw [hs'] at hrow3
    have hfin := hb3.grown (grownBy_putObj_a _ W0.heap.size (.deferred none)) hb3.size (fun k e => by cases e; omega)
    refine ⟨_, results_tmp rfl _ _ _, v, rfl, ?_, by rw [hnil]; simp, hb'.trans (hfin.mono hb'.size)⟩
    have hlen : (toI (memL f)).length = (memL f).length := by simp
    rw [← hlen]
    exact hrow3.kept (grownBy_putObj_a _ _ _) (ownsRow_ne_a hrow3 hK3 (fun cur e => by first | cases e | exact hne (Obj.cells.inj e).2.1))
set_option maxRecDepth 100000 in
set_option maxHeartbeats 1000000 in
theorem collect_s (f : Nat → Bool) (n : Nat) (hn : 3 ≤ n) (w00 w : World) (Bm : Nat) (hT : TabW w00) (hb00 : Below w00.heap.size w00 w) (hm : w00.heap.size ≤ Bm) (hbx : BoxAt Bm (loB f) (hiB f) w) :
    CallsIn Fence.wide n Tryz.prog 115 #[svZ Bm] w fun e w' => ∃ (v : Value), e = .returned v ∧ w'.ownsRow w.heap.size 3 1 v (memL f).length ((toI (memL f)).map encZ) ∧ (v = .slice none 0 0 ↔ memL f = []) ∧ Below w00.heap.size w00 w' := by
  have H : ∀ (W : World), W = w → CallsIn Fence.wide (n - 1) Tryz.prog 144 #[.slice none 0 0, svZ Bm] W fun e w' => ∃ (v : Value), e = .returned v ∧ w'.ownsRow w.heap.size 3 1 v (memL f).length ((toI (memL f)).map encZ) ∧ (v = .slice none 0 0 ↔ memL f = []) ∧ Below w00.heap.size w00 w' := by
    rintro W rfl
    exact append_s f (n - 1) (by omega) w00 W Bm hT hb00 hm hbx
  have h1 : 1 ≤ n := by omega
  refine callsIn_of_wp Tryz.func115 rfl trivial ?_ rfl
  simp only [Tryz.ntmps115, List.size_toArray, List.length_cons, List.length_nil, Nat.reduceAdd, Nat.reduceSub, Array.replicate_succ, Array.replicate_zero, List.push_toArray, List.append_toArray, List.nil_append, List.cons_append]
  gi_wp2_with (refine ⟨trivial, ?_⟩; gi_at_call 144; refine (H _ rfl).mono ?_; rintro e w' ⟨v, rfl, hrow, hnil, hb⟩)
  go_ret
  exact ⟨v, rfl, hrow, hnil, hb⟩
set_option maxHeartbeats 1000000 in
theorem each_c (a b : Nat) (w : World) : Calls Tryz.prog 116 #[setV a b] w fun e w' => e = .returned (svZ w.heap.size) ∧ BoxAt w.heap.size a b w' ∧ Below w.heap.size w w' := by
  have hu := Tryz.underlying77
  have HS := Aside0.mk (SvAt.new w a b)
  go_enter Tryz.func116, Tryz.ntmps116
  go_wp2_with fail
  go_ret
  exact ⟨rfl, ⟨HS.out.e0, HS.out.e1, HS.out.fz⟩, HS.out.bel⟩
set_option maxRecDepth 100000 in
set_option maxHeartbeats 1000000 in
/-- The squares of a set, rising. -/
theorem list_c (f : Nat → Bool) (w : World) (hT : TabW w) : Calls Tryz.prog 91 #[setF f] w fun e w' => ∃ v, e = .returned v ∧ OwnZ w' w.heap.size v (ints (memL f)) ∧ Below w.heap.size w w' := by
  show Calls Tryz.prog 91 #[setV (loB f) (hiB f)] w fun e w' => ∃ v, e = .returned v ∧ OwnZ w' w.heap.size v (ints (memL f)) ∧ Below w.heap.size w w'
  have HE := Aside0.mk (fun W => each_c (loB f) (hiB f) W)
  have HC := Aside0.mk (fun (W : World) (hb00 : Below w.heap.size w W) (Bm : Nat) (hm : w.heap.size ≤ Bm) (hbx : BoxAt Bm (loB f) (hiB f) W) => callsIn_wide.1 (collect_s f 3 (by omega) w W Bm hT hb00 hm hbx))
  have hO : ∀ (W' : World) (v : Value) (B : Nat), w.heap.size ≤ B → W'.ownsRow B 3 1 v (memL f).length ((toI (memL f)).map encZ) → OwnZ W' w.heap.size v (ints (memL f)) := by
    intro W' v B hB h
    refine OwnZ.lower ?_ hB
    have e1 : (ints (memL f)).length = (memL f).length := by simp [ints]
    unfold OwnZ
    rw [e1]
    exact h
  have hO := Aside0.mk hO
  have hu := Tryz.underlying77
  have HS := Aside0.mk (SvAt.new w (loB f) (hiB f))
  generalize loB f = a at *
  generalize hiB f = b at *
  go_enter Tryz.func91, Tryz.ntmps91
  go_wp2_with (first
    | (go_at_call 116; refine (HE.out _).mono ?_; rintro e w1 ⟨rfl, hbx, hb⟩; have HB1 := Aside0.mk (HS.out.bel.trans (hb.mono HS.out.bel.size)); have HX := Aside0.mk hbx; clear hbx hb)
    | (go_at_call 115; refine (HC.out _ HB1.out (w.heap.size + 1) (by omega) (by have h := HX.out; simpa using h)).mono ?_; rintro e w2 ⟨v, rfl, hrow, _, hb⟩))
  go_ret
  exact ⟨v, rfl, hO.out _ _ _ HB1.out.size hrow, hb⟩
end Go.Proofs.YtllbkppdkldmiaaGreatDoor.K

/- Walks: the squares on which something is so; Find, Pieces. -/
namespace Go.Proofs.YtllbkppdkldmiaaGreatDoor.K
open Go.RowKit Go.Lib Go.Proofs.YtllbkppdkldmiaaGreatDoorW.PrintWords Go.Proofs.YtllbkppdkldmiaaGreatDoor.Sp
set_option linter.unusedVariables false
set_option linter.unusedSimpArgs false
attribute [local go_sem] cel_get
/-- The result's box, the set's box. -/
structure StAt (w0 W : World) (a b : Nat) : Prop where
  r0 : W.cell? ⟨w0.heap.size, 0, none⟩ = some (.int .u64 0)
  r1 : W.cell? ⟨w0.heap.size, 1, none⟩ = some (.int .u64 0)
  fr : ∀ k, W.frozen? ⟨w0.heap.size, k, none⟩ = false
  e0 : W.cell? ⟨w0.heap.size + 1, 0, none⟩ = some (.int .u64 (a : Int))
  e1 : W.cell? ⟨w0.heap.size + 1, 1, none⟩ = some (.int .u64 (b : Int))
  fz : ∀ k, W.frozen? ⟨w0.heap.size + 1, k, none⟩ = false
  bel : Below w0.heap.size w0 W
theorem StAt.lt {w0 W : World} {a b : Nat} (h : StAt w0 W a b) : w0.heap.size + 1 < W.heap.size := World.block_lt_of_cell? W ⟨w0.heap.size + 1, 0, none⟩ h.e0
theorem StAt.below {w0 W W' : World} {a b : Nat} (h : StAt w0 W a b) (hb : Below W.heap.size W W') : StAt w0 W' a b := by
  have h2 := h.lt
  have h1 : w0.heap.size < W.heap.size := by omega
  exact ⟨(hb.cell (p := ⟨w0.heap.size, 0, none⟩) h1).trans h.r0, (hb.cell (p := ⟨w0.heap.size, 1, none⟩) h1).trans h.r1, fun k => (hb.frozen (p := ⟨w0.heap.size, k, none⟩) h1).trans (h.fr k),
    (hb.cell (p := ⟨w0.heap.size + 1, 0, none⟩) h2).trans h.e0, (hb.cell (p := ⟨w0.heap.size + 1, 1, none⟩) h2).trans h.e1, fun k => (hb.frozen (p := ⟨w0.heap.size + 1, k, none⟩) h2).trans (h.fz k), h.bel.trans (hb.mono h.bel.size)⟩
theorem StAt.new (w : World) : StAt w ((w.alloc (.cells #[.int .u64 0, .int .u64 0] 77)).alloc (.cells #[.int .u64 0, .int .u64 0] 77)) 0 0 :=
  ⟨by simp [World.cell?_alloc_at, World.cell?_alloc_past], by simp [World.cell?_alloc_at, World.cell?_alloc_past], fun k => ((below_alloc (Below.refl (w.alloc (.cells #[.int .u64 0, .int .u64 0] 77)).heap.size _) _).frozen (p := ⟨w.heap.size, k, none⟩) (by simp)).trans (World.frozen?_alloc_at _ _ _ k rfl), by simp [World.cell?_alloc_at], by simp [World.cell?_alloc_at], fun k => World.frozen?_alloc_at _ _ _ k (by simp), below_alloc (below_alloc (Below.refl _ _) _) _⟩
theorem StAt.put {w0 W : World} {a b : Nat} (h : StAt w0 W a b) (c d : Nat) : StAt w0 (putB W (w0.heap.size + 1) c d) c d := by
  have h0 := h.r0
  have h1 := h.r1
  have h2 := h.fr
  have h3 := h.e0
  have h4 := h.e1
  have h5 := h.fz
  exact ⟨by simp [go_sem, h0], by simp [go_sem, h1], fun k => by simp [go_sem, h2], by simp [go_sem, h3, h4], by simp [go_sem, h3, h4], fun k => by simp [go_sem, h5], putB_below h.bel _ _ _ (by omega)⟩
/-- The first i squares of a set. -/
abbrev uptoF (p : Nat → Bool) (i : Nat) : Nat → Bool := fun k => decide (k < i) && p k
theorem upto_zero (p : Nat → Bool) : loB (uptoF p 0) = 0 ∧ hiB (uptoF p 0) = 0 := ⟨bits_zero.2 (by simp), bits_zero.2 (by simp)⟩
theorem upto_all (p : Nat → Bool) : loB (uptoF p 90) = loB p ∧ hiB (uptoF p 90) = hiB p :=
  ⟨bitsTo_congr fun i hi => by simp [show i < 90 by omega], bitsTo_congr fun i hi => by simp [show 45 + i < 90 by omega]⟩
theorem upto_put (p : Nat → Bool) (i : Nat) (h : p i = true) : putF (uptoF p i) i = uptoF p (i + 1) := by
  funext k
  simp only [putF, uptoF]
  rcases Nat.lt_trichotomy k i with h1 | h1 | h1
  · simp [h1, show k < i + 1 by omega, show ¬ k = i by omega]
  · subst h1; simp [h]
  · simp [show ¬ k < i by omega, show ¬ k < i + 1 by omega, show ¬ k = i by omega]
theorem upto_skip (p : Nat → Bool) (i : Nat) (h : p i = false) : uptoF p i = uptoF p (i + 1) := by
  funext k
  simp only [uptoF]
  rcases Nat.lt_trichotomy k i with h1 | h1 | h1
  · simp [h1, show k < i + 1 by omega]
  · subst h1; simp [h]
  · simp [show ¬ k < i by omega, show ¬ k < i + 1 by omega]
set_option maxRecDepth 100000 in
set_option maxHeartbeats 2000000 in
/-- The squares on which something is so: the closure is asked of each square of a board. -/
theorem set_c (s : ByteArray) (hs : isBoard s = true) (p : Nat → Bool) (g : Nat) (lb : Array Value) (eg : ∀ args w, (callFunc g args).run Tryz.prog w = .ok (.enter g args) w) (w : World)
    (hg : ∀ i, i < 90 → ∀ W, Below w.heap.size w W → Calls Tryz.prog g (#[.int .u8 (cel s i : Int)] ++ lb) W fun e W' => e = .returned (.bool (p i)) ∧ Below W.heap.size W W') :
    Calls Tryz.prog 89 #[.string s, .func (.func g) #[] lb] w fun e w' => e = .returned (setF p) ∧ Below w.heap.size w w' := by
  have hsz := board_size hs
  have HI := Aside0.mk (fun W => is_c s W)
  rw [hs] at HI
  have HG := Aside0.mk hg
  have hu := Tryz.underlying77
  have HS := Aside0.mk (StAt.new w)
  clear hs hg
  go_enter Tryz.func89, Tryz.ntmps89
  go_wp2_with (go_at_call 37; refine (HI.out _).mono ?_; rintro e w1 ⟨rfl, hb⟩; have HS1 := Aside0.mk (HS.out.below hb); clear hb)
  go_loopg [9] 90 (fun gg s9 wr => ∃ i : Nat, s9 = .int .i64 i ∧ i + gg = 90 ∧ Aside0 (StAt w wr (loB (uptoF p i)) (hiB (uptoF p i))))
  case atStart => exact ⟨0, rfl, by omega, ⟨by rw [(upto_zero p).1, (upto_zero p).2]; exact HS1.out⟩⟩
  case round =>
    obtain ⟨i, rfl, hi, HR⟩ := hrel
    clear HS HS1
    cases gk with
    | zero =>
      obtain rfl : i = 90 := by omega
      rw [(upto_all p).1, (upto_all p).2] at HR
      obtain ⟨r0, r1, fr, e0, e1, fz, _⟩ := HR.out
      have hne : w.heap.size + 1 ≠ w.heap.size := by omega
      go_wp2_with fail
      refine bodyPost_ret (by simp [results, Tryz.results89, go_sem, r0, r1]; try rfl) rfl ?_
      refine ⟨rfl, ?_⟩
      (repeat' (first | (with_reducible exact Below.refl _ _) | (with_reducible refine pw_below_drewN ?_ _) | (with_reducible refine below_alloc ?_ _) | (with_reducible refine Below.drew ?_) | (with_reducible refine Below.setCell ?_ ?_ _) | (simp; done))) <;> first | exact HR.out.bel | (simp; done) | (simp; omega)
    | succ gk =>
      have hi90 : i < 90 := by omega
      have i1 : (i : Int) < 90 := by omega
      have i2 : (i : Int) < (s.size : Int) := by omega
      have i3 : (0 : Int) ≤ (i : Int) := by omega
      have HC := Aside0.mk (HG.out i hi90)
      have HWi := Aside0.mk (fun W => with_c (uptoF p i) i hi90 W)
      have HI1 := Aside0.mk (show i + 1 + gk = 90 by omega)
      clear hi
      cases hp : p i
      case false =>
        rw [hp] at HC
        rw [upto_skip p i hp] at HR
        go_wp2_with (go_at_fn g; refine (HC.out _ HR.out.bel).mono ?_; rintro e w2 ⟨rfl, hb⟩; have HR2 := Aside0.mk (HR.out.below hb); clear hb)
        go_roundg gk
        case measure => omega
        case rel => exact ⟨i + 1, rfl, HI1.out, HR2⟩
      case true =>
        rw [hp] at HC
        rw [upto_put p i hp] at HWi
        have HWi : Aside0 (∀ W, Calls Tryz.prog 114 #[setV (loB (uptoF p i)) (hiB (uptoF p i)), .int .i64 (i : Int)] W fun e w' => e = .returned (setV (loB (uptoF p (i + 1))) (hiB (uptoF p (i + 1)))) ∧ Below W.heap.size W w') := HWi
        generalize loB (uptoF p i) = a at *
        generalize hiB (uptoF p i) = b at *
        go_upto_region 7 with (go_at_fn g; refine (HC.out _ HR.out.bel).mono ?_; rintro e w2 ⟨rfl, hb⟩; have HR2 := Aside0.mk (HR.out.below hb); clear hb HR)
        obtain ⟨r0, r1, fr, e0, e1, fz, _⟩ := HR2.out
        go_wp2_with (go_at_call 114; refine (HWi.out _).mono ?_; rintro e w3 ⟨rfl, hb⟩; have HR3 := Aside0.mk (HR2.out.below hb); clear hb HR2 r0 r1 fr e0 e1 fz; obtain ⟨r0, r1, fr, e0, e1, fz, _⟩ := HR3.out)
        go_roundg gk
        case measure => omega
        case rel => exact ⟨i + 1, rfl, HI1.out, ⟨HR3.out.put _ _⟩⟩
/-- .. and of no board, nothing. -/
theorem set_no (s : ByteArray) (hs : isBoard s = false) (fv : Value) (w : World) :
    Calls Tryz.prog 89 #[.string s, fv] w fun e w' => e = .returned (setF fun _ => false) ∧ Below w.heap.size w w' := by
  have HI := Aside0.mk (fun W => is_c s W)
  rw [hs] at HI
  have hu := Tryz.underlying77
  have HS := Aside0.mk (StAt.new w)
  have HE := Aside0.mk (show setV 0 0 = setF (fun _ => false) by
    have h1 : loB (fun _ => false) = 0 := bits_zero.2 (by simp)
    have h2 : hiB (fun _ => false) = 0 := bits_zero.2 (by simp)
    show setV 0 0 = setV (loB fun _ => false) (hiB fun _ => false)
    rw [h1, h2])
  clear hs
  go_enter Tryz.func89, Tryz.ntmps89
  go_wp2_with (go_at_call 37; refine (HI.out _).mono ?_; rintro e w1 ⟨rfl, hb⟩; have HS1 := Aside0.mk (HS.out.below hb); clear hb; obtain ⟨r0, r1, fr, e0, e1, fz, _⟩ := HS1.out)
  have hne : w.heap.size + 1 ≠ w.heap.size := by omega
  refine bodyPost_ret (by simp [results, Tryz.results89, go_sem, r0, r1]; try rfl) rfl ?_
  refine ⟨by rw [← HE.out]; rfl, ?_⟩
  (repeat' (first | (with_reducible exact Below.refl _ _) | (with_reducible refine pw_below_drewN ?_ _) | (with_reducible refine below_alloc ?_ _) | (with_reducible refine Below.drew ?_) | (with_reducible refine Below.setCell ?_ ?_ _) | (simp; done))) <;> first | exact HS1.out.bel | (simp; done) | (simp; omega)
/-- The squares of a piece; those of a side. -/
def findS (s : ByteArray) (c : Nat) : List Nat := if isBoard s = true then (List.range 90).filter fun i => decide (cel s i = c) else []
def piecesS (s : ByteArray) (a : Int) : List Nat := if isBoard s = true then (List.range 90).filter fun i => decide (0 ≤ a) && decide (sideN (cel s i) = a) else []
end Go.Proofs.YtllbkppdkldmiaaGreatDoor.K

/- Walks: Find, Pieces. -/
namespace Go.Proofs.YtllbkppdkldmiaaGreatDoor.K
open Go.RowKit Go.Lib Go.Proofs.YtllbkppdkldmiaaGreatDoorW.PrintWords Go.Proofs.YtllbkppdkldmiaaGreatDoor.Sp
set_option linter.unusedVariables false
set_option linter.unusedSimpArgs false
theorem find1_c (x c : Nat) (A : Addr) (w : World) (h : w.cell? A = some (.int .u8 (c : Int))) :
    Calls Tryz.prog 93 #[.int .u8 (x : Int), .pointer (some A)] w fun e w' => e = .returned (.bool (decide (x = c))) ∧ Below w.heap.size w w' := by
  have hd : ((x : Int) == (c : Int)) = decide (x = c) := by rw [Bool.eq_iff_iff]; simp; omega
  go_enter Tryz.func93, Tryz.ntmps93
  go_wp2_with fail
  go_ret
  refine ⟨ret_bool ?_, by (repeat' (first | (with_reducible exact Below.refl _ _) | (with_reducible refine pw_below_drewN ?_ _) | (with_reducible refine below_alloc ?_ _) | (with_reducible refine Below.drew ?_) | (with_reducible refine Below.setCell ?_ ?_ _) | (simp; done))) <;> first | exact Below.refl _ _ | (simp; done)⟩
  first | rfl | (rw [Bool.eq_iff_iff]; simp; try omega)
set_option maxHeartbeats 1000000 in
theorem pieces1_c (x : Nat) (hx : x < 256) (a : Int) (A : Addr) (w : World) (h : w.cell? A = some (.int .i64 a)) :
    Calls Tryz.prog 90 #[.int .u8 (x : Int), .pointer (some A)] w fun e w' => e = .returned (.bool (decide (0 ≤ a) && decide (sideN x = a))) ∧ Below w.heap.size w w' := by
  have HS := Aside0.mk (fun W => side_c x hx W)
  generalize sideN x = y at *
  clear hx
  by_cases ha : 0 ≤ a
  · have hq : decide (0 ≤ a) = true := decide_eq_true ha
    go_enter Tryz.func90, Tryz.ntmps90
    go_wp2_with fail
    go_quiet (first | (go_at_call 26; exact Calls.quiet_of_same (HS.out _)))
    go_wp2_with fail
    go_ret
    refine ⟨ret_bool ?_, pw_below_drewN (Below.refl _ _) _⟩
    rw [Bool.eq_iff_iff]; simp_all <;> try omega
  · have hq : decide (0 ≤ a) = false := decide_eq_false ha
    clear HS
    go_enter Tryz.func90, Tryz.ntmps90
    go_wp2_with fail
    go_quiet (first | fail)
    go_wp2_with fail
    go_ret
    refine ⟨ret_bool ?_, pw_below_drewN (Below.refl _ _) _⟩
    rw [Bool.eq_iff_iff]; simp_all <;> try omega
set_option maxHeartbeats 1000000 in
theorem find_c (s : ByteArray) (c : Nat) (w : World) (hT : TabW w) : Calls Tryz.prog 60 #[.string s, .int .u8 (c : Int)] w fun e w' => ∃ v, e = .returned v ∧ OwnZ w' w.heap.size v (ints (findS s c)) ∧ Below w.heap.size w w' := by
  have HT := Aside0.mk (fun (W : World) (hb : Below w.heap.size w W) => hT.below hb)
  have HB0 := Aside0.mk (below_alloc (Below.refl w.heap.size w) (.cells #[.int .u8 (c : Int)] 5))
  cases hs : isBoard s
  case true =>
    rw [show findS s c = memL (fun i => decide (cel s i = c)) by unfold findS; rw [if_pos hs]; rfl]
    have HF := Aside0.mk (fun (W : World) (hc : W.cell? ⟨w.heap.size, 0, none⟩ = some (.int .u8 (c : Int))) => set_c s hs (fun i => decide (cel s i = c)) 93 #[.pointer (some ⟨w.heap.size, 0, none⟩)] (enters_of Tryz.func93 (by kernel_rfl) rfl) W
      (fun i hi W' hb => find1_c (cel s i) c _ W' ((hb.cell (World.block_lt_of_cell? W _ hc)).trans hc)))
    have HL := Aside0.mk (fun (W : World) (hT : TabW W) => list_c (fun i => decide (cel s i = c)) W hT)
    have hc : (w.alloc (.cells #[.int .u8 (c : Int)] 5)).cell? ⟨w.heap.size, 0, none⟩ = some (.int .u8 (c : Int)) := by simp [World.cell?_alloc_at]
    have HC := Aside0.mk hc
    clear hT hs hc
    generalize (fun i => decide (cel s i = c)) = p at *
    go_enter Tryz.func60, Tryz.ntmps60
    go_wp2_with (first
      | (go_at_call 89; refine (HF.out _ HC.out).mono ?_; rintro e w1 ⟨rfl, hb⟩; have HB1 := Aside0.mk (HB0.out.trans (hb.mono HB0.out.size)); clear hb)
      | (go_at_call 91; refine (HL.out _ (HT.out _ HB1.out)).mono ?_; rintro e w2 ⟨v, rfl, hv, hb⟩; have HB2 := Aside0.mk (HB1.out.trans (hb.mono HB1.out.size)); have HV := Aside0.mk (hv.lower HB1.out.size); clear hb hv))
    go_ret
    exact ⟨v, rfl, HV.out, HB2.out⟩
  case false =>
    rw [show findS s c = memL (fun _ => false) by unfold findS; rw [if_neg (by rw [hs]; decide)]; simp [memL]]
    have HF := Aside0.mk (fun (fv : Value) (W : World) => set_no s hs fv W)
    have HL := Aside0.mk (fun (W : World) (hT : TabW W) => list_c (fun _ => false) W hT)
    clear hT hs
    generalize (fun _ : Nat => false) = p at *
    go_enter Tryz.func60, Tryz.ntmps60
    go_wp2_with (first
      | (go_at_call 89; refine (HF.out _ _).mono ?_; rintro e w1 ⟨rfl, hb⟩; have HB1 := Aside0.mk (HB0.out.trans (hb.mono HB0.out.size)); clear hb)
      | (go_at_call 91; refine (HL.out _ (HT.out _ HB1.out)).mono ?_; rintro e w2 ⟨v, rfl, hv, hb⟩; have HB2 := Aside0.mk (HB1.out.trans (hb.mono HB1.out.size)); have HV := Aside0.mk (hv.lower HB1.out.size); clear hb hv))
    go_ret
    exact ⟨v, rfl, HV.out, HB2.out⟩
set_option maxHeartbeats 1000000 in
theorem pieces_c (s : ByteArray) (c : Int) (w : World) (hT : TabW w) : Calls Tryz.prog 56 #[.string s, .int .i64 c] w fun e w' => ∃ v, e = .returned v ∧ OwnZ w' w.heap.size v (ints (piecesS s c)) ∧ Below w.heap.size w w' := by
  have HT := Aside0.mk (fun (W : World) (hb : Below w.heap.size w W) => hT.below hb)
  have HB0 := Aside0.mk (below_alloc (Below.refl w.heap.size w) (.cells #[.int .i64 c] 3))
  cases hs : isBoard s
  case true =>
    rw [show piecesS s c = memL (fun i => decide (0 ≤ c) && decide (sideN (cel s i) = c)) by unfold piecesS; rw [if_pos hs]; rfl]
    have HF := Aside0.mk (fun (W : World) (hc : W.cell? ⟨w.heap.size, 0, none⟩ = some (.int .i64 c)) => set_c s hs (fun i => decide (0 ≤ c) && decide (sideN (cel s i) = c)) 90 #[.pointer (some ⟨w.heap.size, 0, none⟩)] (enters_of Tryz.func90 (by kernel_rfl) rfl) W
      (fun i hi W' hb => pieces1_c (cel s i) (cel_lt s i) c _ W' ((hb.cell (World.block_lt_of_cell? W _ hc)).trans hc)))
    have HL := Aside0.mk (fun (W : World) (hT : TabW W) => list_c (fun i => decide (0 ≤ c) && decide (sideN (cel s i) = c)) W hT)
    have hc : (w.alloc (.cells #[.int .i64 c] 3)).cell? ⟨w.heap.size, 0, none⟩ = some (.int .i64 c) := by simp [World.cell?_alloc_at]
    have HC := Aside0.mk hc
    clear hT hs hc
    generalize (fun i => decide (0 ≤ c) && decide (sideN (cel s i) = c)) = p at *
    go_enter Tryz.func56, Tryz.ntmps56
    go_wp2_with (first
      | (go_at_call 89; refine (HF.out _ HC.out).mono ?_; rintro e w1 ⟨rfl, hb⟩; have HB1 := Aside0.mk (HB0.out.trans (hb.mono HB0.out.size)); clear hb)
      | (go_at_call 91; refine (HL.out _ (HT.out _ HB1.out)).mono ?_; rintro e w2 ⟨v, rfl, hv, hb⟩; have HB2 := Aside0.mk (HB1.out.trans (hb.mono HB1.out.size)); have HV := Aside0.mk (hv.lower HB1.out.size); clear hb hv))
    go_ret
    exact ⟨v, rfl, HV.out, HB2.out⟩
  case false =>
    rw [show piecesS s c = memL (fun _ => false) by unfold piecesS; rw [if_neg (by rw [hs]; decide)]; simp [memL]]
    have HF := Aside0.mk (fun (fv : Value) (W : World) => set_no s hs fv W)
    have HL := Aside0.mk (fun (W : World) (hT : TabW W) => list_c (fun _ => false) W hT)
    clear hT hs
    generalize (fun _ : Nat => false) = p at *
    go_enter Tryz.func56, Tryz.ntmps56
    go_wp2_with (first
      | (go_at_call 89; refine (HF.out _ _).mono ?_; rintro e w1 ⟨rfl, hb⟩; have HB1 := Aside0.mk (HB0.out.trans (hb.mono HB0.out.size)); clear hb)
      | (go_at_call 91; refine (HL.out _ (HT.out _ HB1.out)).mono ?_; rintro e w2 ⟨v, rfl, hv, hb⟩; have HB2 := Aside0.mk (HB1.out.trans (hb.mono HB1.out.size)); have HV := Aside0.mk (hv.lower HB1.out.size); clear hb hv))
    go_ret
    exact ⟨v, rfl, HV.out, HB2.out⟩
end Go.Proofs.YtllbkppdkldmiaaGreatDoor.K

/- A block of bytes of the call's own. -/
namespace Go.Proofs.YtllbkppdkldmiaaGreatDoor.K
open Go.RowKit Go.Lib Go.Proofs.YtllbkppdkldmiaaGreatDoorW.PrintWords Go.Proofs.YtllbkppdkldmiaaGreatDoor.Sp
set_option linter.unusedVariables false
set_option linter.unusedSimpArgs false
/-- A block of bytes of the call's own. -/
def BytesAt (W : World) (g : Nat) (xs : List Int) : Prop := ∀ i, i < xs.length → W.cell? ⟨g, i, none⟩ = some (.int .u8 (xs.getD i 0)) ∧ W.frozen? ⟨g, i, none⟩ = false
theorem bytes_at_new (w : World) (e : TypeId) (s : ByteArray) : BytesAt (Lib.bytesWorld w e s) w.heap.size (bytesOf s) := by
  intro i hi
  rw [bytesOf_length] at hi
  have hcl : (Lib.bytesCells w e s).size ≥ s.size := by
    have h := Lib.bytesWorld_cell w e s (s.size - 1) (by omega)
    have hn := Lib.bytesWorld_at_new w e s
    unfold World.cell? at h
    rw [hn] at h
    by_cases hlt : s.size - 1 < (Lib.bytesCells w e s).size
    · omega
    · simp [Array.getElem?_eq_none (Nat.le_of_not_lt hlt)] at h
  refine ⟨(Lib.bytesWorld_cell w e s i hi).trans ?_, ?_⟩
  · have h' : i < s.data.toList.length := by rw [data_length]; exact hi
    simp [bytesOf, List.getD_eq_getElem?_getD, List.getElem?_eq_getElem h']
  · have hn := Lib.bytesWorld_at_new w e s
    simp [World.frozen?, hn]
    omega
theorem BytesAt.set {W : World} {g : Nat} {xs : List Int} (h : BytesAt W g xs) (i : Nat) (v : Int) : BytesAt (W.setCell ⟨g, i, none⟩ (.int .u8 v)) g (xs.set i v) := by
  intro j hj
  rw [List.length_set] at hj
  obtain ⟨h1, h2⟩ := h j hj
  refine ⟨?_, by rw [World.frozen?_setCell]; exact h2⟩
  by_cases hij : i = j
  · subst hij
    rw [World.cell?_setCell_same' _ _ _ (by rw [h1]; rfl)]
    simp [List.getD_eq_getElem?_getD, hj]
  · rw [World.cell?_setCell_other _ _ _ _ (by intro e; injection e with _ e _; exact hij e), h1]
    simp [List.getD_eq_getElem?_getD, List.getElem?_set_ne hij]
theorem BytesAt.below {W W1 : World} {g : Nat} {xs : List Int} (h : BytesAt W g xs) (hg : g < W.heap.size) (hb : Below W.heap.size W W1) : BytesAt W1 g xs :=
  fun i hi => ⟨(hb.cell (p := ⟨g, i, none⟩) hg).trans (h i hi).1, (hb.frozen (p := ⟨g, i, none⟩) hg).trans (h i hi).2⟩
theorem bytes_string {W : World} {g cap : Nat} {xs : List Int} (h : BytesAt W g xs) (src : TypeId) (hs : Tryz.prog.underlying src = some (.slice 5)) : (convert src 9 (.slice (some ⟨g, 0, none⟩) xs.length cap)).run Tryz.prog W = .ok (.string (strOfNums xs)) W :=
  run_convert_bytes_arg W src 5 hs Tryz.underlying5 g 0 xs.length cap xs rfl (fun i hi => by rw [Nat.zero_add]; exact (h i hi).1) 9 Tryz.underlying9
end Go.Proofs.YtllbkppdkldmiaaGreatDoor.K

/- Walks: Put. -/
namespace Go.Proofs.YtllbkppdkldmiaaGreatDoor.K
open Go.RowKit Go.Lib Go.Proofs.YtllbkppdkldmiaaGreatDoorW.PrintWords Go.Proofs.YtllbkppdkldmiaaGreatDoor.Sp
set_option linter.unusedVariables false
set_option linter.unusedSimpArgs false
/-- A text with a byte on a square. -/
def putT (s : ByteArray) (n c : Nat) : ByteArray := strOfNums ((bytesOf s).set n (c : Int))
def putS (s : ByteArray) (n : Int) (c : Nat) : ByteArray := if isBoard s = true ∧ 0 ≤ n ∧ n < 90 ∧ cellB c = true then putT s n.toNat c else s
set_option maxRecDepth 100000 in
set_option maxHeartbeats 2000000 in
theorem put_yes (s : ByteArray) (n c : Nat) (hs : isBoard s = true) (hn : n < 90) (hc : cellB c = true) (hc2 : c < 256) (w : World) : Calls Tryz.prog 36 #[.string s, .int .i64 (n : Int), .int .u8 (c : Int)] w fun e w' => e = .returned (.string (putT s n c)) ∧ Below w.heap.size w w' := by
  have hz := board_size hs
  have HI := Aside0.mk (fun W => is_c s W)
  rw [hs] at HI
  have HQ := Aside0.mk (fun W => isSquare_c (n : Int) W)
  rw [show decide (0 ≤ (n : Int) ∧ (n : Int) < 90) = true by simp; omega] at HQ
  have HC := Aside0.mk (fun W => isCell_c c hc2 W)
  rw [hc] at HC
  have kb := fun W => print_bytes (P := Tryz.prog) 9 64 5 Tryz.underlying9 Tryz.underlying64 Tryz.underlying5 s W
  have h0 : 0 ≤ (n : Int) := by omega
  have h1 : (n : Int) < (s.size : Int) := by omega
  have HLT := Aside0.mk (show n < s.size by omega)
  have HP := Aside0.mk (show putT s n c = strOfNums ((bytesOf s).set n (c : Int)) from rfl)
  generalize putT s n c = t at *
  clear hs hn hc hc2 hz
  go_enter Tryz.func36, Tryz.ntmps36
  go_wp2_with (first | (go_at_call 64; refine (HQ.out _).mono ?_; rintro e w' ⟨rfl, rfl⟩) | (go_at_call 71; refine (HC.out _).mono ?_; rintro e w' ⟨rfl, rfl⟩) | (go_at_call 37; refine (HI.out _).mono ?_; rintro e w1 ⟨rfl, hb1⟩; have HB1 := Aside0.mk hb1; clear hb1; have hN := Aside0.mk (bytes_at_new w1 5 s); obtain ⟨hc0, hf0⟩ := hN.out n (by rw [bytesOf_length]; exact HLT.out); have kc := bytes_string (hN.out.set n (c : Int)) 64 Tryz.underlying64 (cap := grownCap w1 s.size 0 5); rw [List.length_set, bytesOf_length, ← HP.out] at kc))
  go_ret
  have hb' := HB1.out
  exact ⟨rfl, (bytes_below hb' (below_size hb') 5 s).setCell (p := ⟨w1.heap.size, n, none⟩) (below_size hb') _⟩
set_option maxRecDepth 100000 in
set_option maxHeartbeats 2000000 in
theorem put_not (s : ByteArray) (n : Int) (c : Nat) (hc2 : c < 256) (h : ¬ (isBoard s = true ∧ 0 ≤ n ∧ n < 90 ∧ cellB c = true)) (w : World) : Calls Tryz.prog 36 #[.string s, .int .i64 n, .int .u8 (c : Int)] w fun e w' => e = .returned (.string s) ∧ Below w.heap.size w w' := by
  have HI := Aside0.mk (fun W => is_c s W)
  have HQ := Aside0.mk (fun W => isSquare_c n W)
  have HC := Aside0.mk (fun W => isCell_c c hc2 W)
  have HB := Aside0.mk (Below.refl w.heap.size w)
  clear hc2
  cases hq : decide (0 ≤ n ∧ n < 90) with
  | false =>
    rw [hq] at HQ
    clear h hq HC HI
    go_enter Tryz.func36, Tryz.ntmps36
    go_wp2_with (first | (go_at_call 64; refine (HQ.out _).mono ?_; rintro e w' ⟨rfl, rfl⟩))
    go_ret
    exact ⟨rfl, HB.out⟩
  | true =>
    have hq' := of_decide_eq_true hq
    rw [hq] at HQ
    clear hq
    cases hc : cellB c with
    | false =>
      rw [hc] at HC
      clear h hc HI hq'
      go_enter Tryz.func36, Tryz.ntmps36
      go_wp2_with (first | (go_at_call 64; refine (HQ.out _).mono ?_; rintro e w' ⟨rfl, rfl⟩) | (go_at_call 71; refine (HC.out _).mono ?_; rintro e w' ⟨rfl, rfl⟩))
      go_ret
      exact ⟨rfl, HB.out⟩
    | true =>
      have hs : isBoard s = false := by
        cases hs : isBoard s
        · rfl
        · exact absurd ⟨hs, hq'.1, hq'.2, hc⟩ h
      rw [hc] at HC
      rw [hs] at HI
      clear h hc hs hq'
      go_enter Tryz.func36, Tryz.ntmps36
      go_wp2_with (first | (go_at_call 64; refine (HQ.out _).mono ?_; rintro e w' ⟨rfl, rfl⟩) | (go_at_call 71; refine (HC.out _).mono ?_; rintro e w' ⟨rfl, rfl⟩) | (go_at_call 37; refine (HI.out _).mono ?_; rintro e w1 ⟨rfl, hb1⟩; have HB1 := Aside0.mk hb1; clear hb1))
      go_ret
      exact ⟨rfl, HB1.out⟩
theorem put_c (s : ByteArray) (n : Int) (c : Nat) (hc : c < 256) (w : World) : Calls Tryz.prog 36 #[.string s, .int .i64 n, .int .u8 (c : Int)] w fun e w' => e = .returned (.string (putS s n c)) ∧ Below w.heap.size w w' := by
  by_cases h : isBoard s = true ∧ 0 ≤ n ∧ n < 90 ∧ cellB c = true
  · rw [show putS s n c = putT s n.toNat c from if_pos h]
    have e : n = ((n.toNat : Nat) : Int) := by omega
    have := put_yes s n.toNat c h.1 (by omega) h.2.2.2 hc w
    rw [← e] at this
    exact this
  · rw [show putS s n c = s from if_neg h]
    exact put_not s n c hc h w
end Go.Proofs.YtllbkppdkldmiaaGreatDoor.K

/- Walks: slices.Contains over numbers of one's own. -/
namespace Go.Proofs.YtllbkppdkldmiaaGreatDoor.K
open Go.RowKit Go.Lib Go.Proofs.YtllbkppdkldmiaaGreatDoorW.PrintWords Go.Proofs.YtllbkppdkldmiaaGreatDoor.Sp
set_option linter.unusedVariables false
set_option linter.unusedSimpArgs false
/-- Where a number is first, or -1. -/
def idxL (l : List Nat) (x : Int) : Int := if (x ∈ l.map (fun (n : Nat) => (n : Int))) then 0 else -1
set_option maxRecDepth 100000 in
set_option maxHeartbeats 1000000 in
theorem indexI_c (w : World) (B : Nat) (v : Value) (l : List Nat) (x : Int) (h : IntsAt w B v l) (hl : l.length ≤ 1000000) :
    Calls Tryz.prog 97 #[v, .int .i64 x] w fun e w' => ∃ y : Int, e = .returned (.int .i64 y) ∧ w' = w ∧ (0 ≤ y ↔ ∃ n ∈ l, (n : Int) = x) := by
  obtain ⟨A, cap, rfl, hcap, hA⟩ := h.out
  have HA := Aside0.mk hA
  have HL := Aside0.mk hl
  clear hA hcap h
  have hl1 : (l.length : Int) ≤ 1000000 := by omega
  clear hl
  go_enter Tryz.func97, Tryz.ntmps97
  go_wp2_with fail
  go_loopg [8] l.length (fun gg s8 wr => ∃ i : Nat, s8 = .int .i64 i ∧ i + gg = l.length ∧ wr = w ∧ Aside0 (∀ j (hj : j < l.length), j < i → (l[j] : Int) ≠ x))
  case atStart => exact ⟨0, rfl, by omega, rfl, ⟨fun j hj h => by omega⟩⟩
  case round =>
    obtain ⟨i, rfl, hi, rfl, HN⟩ := hrel
    cases gk with
    | zero =>
      have hn : ¬ ((i : Int) < (l.length : Int)) := by omega
      have HI := Aside0.mk (show i = l.length by omega)
      clear hi
      go_wp2_with fail
      go_ret
      refine ⟨_, rfl, rfl, ?_⟩
      constructor
      · intro h; omega
      · rintro ⟨n, hn, rfl⟩
        obtain ⟨j, hj, rfl⟩ := List.mem_iff_getElem.1 hn
        exact absurd rfl (HN.out j hj (by have := HI.out; omega))
    | succ g =>
      have hn : ((i : Int) < (l.length : Int)) := by omega
      have hil : i < l.length := by omega
      have HI := Aside0.mk (show i + 1 + g = l.length by omega)
      rcases HA.out with h0 | ⟨b, rfl, hb1, hb2, hb3⟩
      · subst h0; simp at hil
      have ci := hb3 i hil
      clear hi hb1 hb2 hb3
      cases hx : (x == (l[i] : Int))
      case true =>
        go_wp2_with fail
        go_ret
        refine ⟨_, rfl, rfl, ?_⟩
        have := beq_iff_eq.1 hx
        exact ⟨fun _ => ⟨l[i], List.getElem_mem hil, this.symm⟩, fun _ => by omega⟩
      case false =>
        go_wp2_with fail
        go_roundg g
        case measure => omega
        case rel =>
          refine ⟨i + 1, rfl, HI.out, rfl, ⟨fun j hj h => ?_⟩⟩
          rcases Nat.lt_or_ge j i with h1 | h1
          · exact HN.out j hj h1
          · have : j = i := by omega
            subst this
            intro he
            rw [he] at hx
            simp at hx
theorem containsI_c (w : World) (B : Nat) (v : Value) (l : List Nat) (x : Int) (h : IntsAt w B v l) (hl : l.length ≤ 1000000) :
    Calls Tryz.prog 65 #[v, .int .i64 x] w fun e w' => e = .returned (.bool (l.any (fun n => (n : Int) == x))) ∧ w' = w := by
  have HX := Aside0.mk (indexI_c w B v l x h hl)
  clear h hl
  go_enter Tryz.func65, Tryz.ntmps65
  go_wp2_with fail
  refine HX.out.mono ?_
  rintro e w' ⟨y, rfl, rfl, hy⟩
  have HY := Aside0.mk hy
  clear hy
  go_wp2_with fail
  go_ret
  refine ⟨ret_bool ?_, rfl⟩
  have := HY.out
  rw [Bool.eq_iff_iff]
  simp only [decide_eq_true_eq, List.any_eq_true, beq_iff_eq]
  exact HY.out
end Go.Proofs.YtllbkppdkldmiaaGreatDoor.K

/- Walks: reach.Between, reach.Can. -/
namespace Go.Proofs.YtllbkppdkldmiaaGreatDoor.K
open Go.RowKit Go.Lib Go.Proofs.YtllbkppdkldmiaaGreatDoorW.PrintWords Go.Proofs.YtllbkppdkldmiaaGreatDoor.Sp
set_option linter.unusedVariables false
set_option linter.unusedSimpArgs false
attribute [local go_sem] cel_get   -- for this text's walks alone
set_option maxRecDepth 100000 in
set_option maxHeartbeats 2000000 in
theorem betw_yes (s : ByteArray) (hbd : isBoard s = true) (a b : Nat) (ha : a < 90) (hb : b < 90) (w : World) : Calls Tryz.prog 62 #[.string s, .int .i64 (a : Int), .int .i64 (b : Int)] w fun e w' => e = .returned (.int .i64 (betwN (cel s) a b)) ∧ Below w.heap.size w w' := by
  have hs := board_size hbd
  have HI := Aside0.mk (fun W => is_c s W)
  rw [hbd] at HI
  have HQA := Aside0.mk (fun W => isq_c (a : Int) W)
  rw [show decide (0 ≤ (a : Int) ∧ (a : Int) < 90) = true by simp; omega] at HQA
  have HQB := Aside0.mk (fun W => isq_c (b : Int) W)
  rw [show decide (0 ≤ (b : Int) ∧ (b : Int) < 90) = true by simp; omega] at HQB
  have HRA := Aside0.mk (fun W => rank_c a ha W)
  have HRB := Aside0.mk (fun W => rank_c b hb W)
  have HFA := Aside0.mk (fun W => file_c a ha W)
  have HFB := Aside0.mk (fun W => file_c b hb W)
  clear hbd
  have a0 : 0 ≤ (a : Int) := by omega
  have a1 : (a : Int) < 90 := by omega
  have b0 : 0 ≤ (b : Int) := by omega
  have b1 : (b : Int) < 90 := by omega
  have q0 : ((a : Int) == (b : Int)) = (a == b) := by rw [Bool.eq_iff_iff, beq_iff_eq, beq_iff_eq]; omega
  have q1 : (((a / 9 : Nat) : Int) == ((b / 9 : Nat) : Int)) = (a / 9 == b / 9) := by rw [Bool.eq_iff_iff, beq_iff_eq, beq_iff_eq]; omega
  have q2 : (((a % 9 : Nat) : Int) == ((b % 9 : Nat) : Int)) = (a % 9 == b % 9) := by rw [Bool.eq_iff_iff, beq_iff_eq, beq_iff_eq]; omega
  by_cases h : a = b
  · have e0 : (a == b) = true := by simp [h]
    rw [show betwN (cel s) a b = -1 by unfold betwN; rw [if_pos h]]
    rw [e0] at q0
    clear h q1 q2 e0
    generalize a / 9 = ra at *
    generalize b / 9 = rb at *
    generalize a % 9 = fa at *
    generalize b % 9 = fb at *
    go_enter Tryz.func62, Tryz.ntmps62
    go_wp2_with (first
      | (go_at_call 37; refine (HI.out _).mono ?_; rintro e w1 ⟨rfl, hb1⟩; have HB1 := Aside0.mk hb1; clear hb1)
      | (go_at_call 94; (with_reducible refine (HQA.out _).mono ?_); rintro e w2 ⟨rfl, rfl⟩)
      | (go_at_call 94; (with_reducible refine (HQB.out _).mono ?_); rintro e w2 ⟨rfl, rfl⟩)
      | (go_at_call 95; (with_reducible refine (HRA.out _).mono ?_); rintro e w2 ⟨rfl, rfl⟩)
      | (go_at_call 95; (with_reducible refine (HRB.out _).mono ?_); rintro e w2 ⟨rfl, rfl⟩)
      | (go_at_call 54; (with_reducible refine (HFA.out _).mono ?_); rintro e w2 ⟨rfl, rfl⟩)
      | (go_at_call 54; (with_reducible refine (HFB.out _).mono ?_); rintro e w2 ⟨rfl, rfl⟩))
    go_ret
    exact ⟨rfl, HB1.out⟩
  have e0 : (a == b) = false := by simp [h]
  rw [e0] at q0
  by_cases hr : a / 9 = b / 9
  case neg =>
    have e1 : (a / 9 == b / 9) = false := by simp [hr]
    rw [e1] at q1
    by_cases hc : a % 9 = b % 9
    case neg =>
      rw [show betwN (cel s) a b = -1 by unfold betwN; rw [if_neg h, if_neg (by omega)]]
      have e2 : (a % 9 == b % 9) = false := by simp [hc]
      rw [e2] at q2
      clear h hr hc e0 e1 e2
      generalize a / 9 = ra at *
      generalize b / 9 = rb at *
      generalize a % 9 = fa at *
      generalize b % 9 = fb at *
      go_enter Tryz.func62, Tryz.ntmps62
      go_wp2_with (first
        | (go_at_call 37; refine (HI.out _).mono ?_; rintro e w1 ⟨rfl, hb1⟩; have HB1 := Aside0.mk hb1; clear hb1)
        | (go_at_call 94; (with_reducible refine (HQA.out _).mono ?_); rintro e w2 ⟨rfl, rfl⟩)
        | (go_at_call 94; (with_reducible refine (HQB.out _).mono ?_); rintro e w2 ⟨rfl, rfl⟩)
        | (go_at_call 95; (with_reducible refine (HRA.out _).mono ?_); rintro e w2 ⟨rfl, rfl⟩)
        | (go_at_call 95; (with_reducible refine (HRB.out _).mono ?_); rintro e w2 ⟨rfl, rfl⟩)
        | (go_at_call 54; (with_reducible refine (HFA.out _).mono ?_); rintro e w2 ⟨rfl, rfl⟩)
        | (go_at_call 54; (with_reducible refine (HFB.out _).mono ?_); rintro e w2 ⟨rfl, rfl⟩))
      go_ret
      exact ⟨rfl, HB1.out⟩
    have e2 : (a % 9 == b % 9) = true := by simp [hc]
    rw [e2] at q2
    obtain ⟨m, hL, hM⟩ := betwL_col a b h hr hc
    rw [show betwN (cel s) a b = (cntN s (min a b) 9 m : Int) by unfold betwN cntN; rw [if_neg h, if_pos (by omega), hL]]
    have HX := Aside0.mk (show max (a : Int) (b : Int) = ((min a b : Nat) : Int) + 9 * m + 9 by omega)
    have HN := Aside0.mk (show min (a : Int) (b : Int) = ((min a b : Nat) : Int) by omega)
    have HLT := Aside0.mk (show min a b + 9 * m < 90 - 9 by omega)
    generalize min a b = mn at *
    have HS := Aside0.mk hs
    clear hL hM e0 e1 e2 h hr hc hs
    generalize a / 9 = ra at *
    generalize b / 9 = rb at *
    generalize a % 9 = fa at *
    generalize b % 9 = fb at *
    go_enter Tryz.func62, Tryz.ntmps62
    go_wp2_with (first
      | (go_at_call 37; refine (HI.out _).mono ?_; rintro e w1 ⟨rfl, hb1⟩; have HB1 := Aside0.mk hb1; clear hb1)
      | (go_at_call 94; (with_reducible refine (HQA.out _).mono ?_); rintro e w2 ⟨rfl, rfl⟩)
      | (go_at_call 94; (with_reducible refine (HQB.out _).mono ?_); rintro e w2 ⟨rfl, rfl⟩)
      | (go_at_call 95; (with_reducible refine (HRA.out _).mono ?_); rintro e w2 ⟨rfl, rfl⟩)
      | (go_at_call 95; (with_reducible refine (HRB.out _).mono ?_); rintro e w2 ⟨rfl, rfl⟩)
      | (go_at_call 54; (with_reducible refine (HFA.out _).mono ?_); rintro e w2 ⟨rfl, rfl⟩)
      | (go_at_call 54; (with_reducible refine (HFB.out _).mono ?_); rintro e w2 ⟨rfl, rfl⟩))
    go_loopg [8, 9] m (fun gg s8 s9 wr => ∃ j i c : Nat, s8 = .int .i64 c ∧ s9 = .int .i64 i ∧ j + gg = m ∧ Aside0 (Below w.heap.size w wr) ∧ Aside0 (i = mn + 9 * (j + 1) ∧ c = cntN s mn 9 j))
    case atStart => exact ⟨0, mn + 9, 0, rfl, by rw [HN.out]; rfl, by omega, HB1, ⟨by omega, rfl⟩⟩
    case round =>
      obtain ⟨j, i, c, rfl, rfl, hjg, HW, HI⟩ := hrel
      have HG := Aside0.mk hjg
      clear hjg
      by_cases hlt : j < m
      · have k1 : decide ((i : Int) < max (a : Int) (b : Int)) = true := decide_eq_true (by rw [HX.out, HI.out.1]; omega)
        have k2 : 0 ≤ (i : Int) := by omega
        have k3 : (i : Int) < (s.size : Int) := by rw [HS.out, HI.out.1]; have := HLT.out; omega
        have k4 : (i : Int) ≤ 90 := by rw [HI.out.1]; have := HLT.out; omega
        have k5 : (c : Int) ≤ 90 := by rw [HI.out.2]; have := cntN_le s mn 9 j; have := HLT.out; omega
        have hcs := cntN_succ s mn 9 j
        rw [← HI.out.1, ← HI.out.2] at hcs
        generalize hx : cel s i = x at hcs
        have HX2 := Aside0.mk hcs
        have q : ((x : Int) != 46) = (x != 46) := by rw [Bool.eq_iff_iff, bne_iff_ne, bne_iff_ne]; omega
        clear hcs
        cases h46 : (x != 46)
        all_goals
          rw [h46] at q
          have H46 := Aside0.mk h46
          clear h46
          go_wp2_with fail
          go_roundg (m - (j + 1))
          case measure => have := HG.out; omega
          case rel =>
            have h46 := H46.out
            have hcs := HX2.out
            first
            | (rw [if_pos (by simpa using h46)] at hcs; exact ⟨j + 1, i + 9, c, rfl, by go_num, by have := HG.out; omega, HW, ⟨by have := HI.out.1; omega, by omega⟩⟩)
            | (rw [if_neg (by simpa using h46)] at hcs; exact ⟨j + 1, i + 9, c + 1, by go_num, by go_num, by have := HG.out; omega, HW, ⟨by have := HI.out.1; omega, by omega⟩⟩)
      · have k1 : decide ((i : Int) < max (a : Int) (b : Int)) = false := decide_eq_false (by rw [HX.out, HI.out.1]; have := HG.out; omega)
        go_wp2_with fail
        go_ret
        exact ⟨ret_int (by rw [HI.out.2, show j = m by have := HG.out; omega]), HW.out⟩
  have e1 : (a / 9 == b / 9) = true := by simp [hr]
  rw [e1] at q1
  obtain ⟨m, hL, hM⟩ := betwL_row a b h hr
  rw [show betwN (cel s) a b = (cntN s (min a b) 1 m : Int) by unfold betwN cntN; rw [if_neg h, if_pos (by omega), hL]]
  have HX := Aside0.mk (show max (a : Int) (b : Int) = ((min a b : Nat) : Int) + 1 * m + 1 by omega)
  have HN := Aside0.mk (show min (a : Int) (b : Int) = ((min a b : Nat) : Int) by omega)
  have HLT := Aside0.mk (show min a b + 1 * m < 90 - 1 by omega)
  generalize min a b = mn at *
  have HS := Aside0.mk hs
  clear hL hM e0 e1 q2 h hr hs
  generalize a / 9 = ra at *
  generalize b / 9 = rb at *
  generalize a % 9 = fa at *
  generalize b % 9 = fb at *
  go_enter Tryz.func62, Tryz.ntmps62
  go_wp2_with (first
    | (go_at_call 37; refine (HI.out _).mono ?_; rintro e w1 ⟨rfl, hb1⟩; have HB1 := Aside0.mk hb1; clear hb1)
    | (go_at_call 94; (with_reducible refine (HQA.out _).mono ?_); rintro e w2 ⟨rfl, rfl⟩)
    | (go_at_call 94; (with_reducible refine (HQB.out _).mono ?_); rintro e w2 ⟨rfl, rfl⟩)
    | (go_at_call 95; (with_reducible refine (HRA.out _).mono ?_); rintro e w2 ⟨rfl, rfl⟩)
    | (go_at_call 95; (with_reducible refine (HRB.out _).mono ?_); rintro e w2 ⟨rfl, rfl⟩)
    | (go_at_call 54; (with_reducible refine (HFA.out _).mono ?_); rintro e w2 ⟨rfl, rfl⟩)
    | (go_at_call 54; (with_reducible refine (HFB.out _).mono ?_); rintro e w2 ⟨rfl, rfl⟩))
  go_loopg [8, 9] m (fun gg s8 s9 wr => ∃ j i c : Nat, s8 = .int .i64 c ∧ s9 = .int .i64 i ∧ j + gg = m ∧ Aside0 (Below w.heap.size w wr) ∧ Aside0 (i = mn + 1 * (j + 1) ∧ c = cntN s mn 1 j))
  case atStart => exact ⟨0, mn + 1, 0, rfl, by rw [HN.out]; rfl, by omega, HB1, ⟨by omega, rfl⟩⟩
  case round =>
    obtain ⟨j, i, c, rfl, rfl, hjg, HW, HI⟩ := hrel
    have HG := Aside0.mk hjg
    clear hjg
    by_cases hlt : j < m
    · have k1 : decide ((i : Int) < max (a : Int) (b : Int)) = true := decide_eq_true (by rw [HX.out, HI.out.1]; omega)
      have k2 : 0 ≤ (i : Int) := by omega
      have k3 : (i : Int) < (s.size : Int) := by rw [HS.out, HI.out.1]; have := HLT.out; omega
      have k4 : (i : Int) ≤ 90 := by rw [HI.out.1]; have := HLT.out; omega
      have k5 : (c : Int) ≤ 90 := by rw [HI.out.2]; have := cntN_le s mn 1 j; have := HLT.out; omega
      have hcs := cntN_succ s mn 1 j
      rw [← HI.out.1, ← HI.out.2] at hcs
      generalize hx : cel s i = x at hcs
      have HX2 := Aside0.mk hcs
      have q : ((x : Int) != 46) = (x != 46) := by rw [Bool.eq_iff_iff, bne_iff_ne, bne_iff_ne]; omega
      clear hcs
      cases h46 : (x != 46)
      all_goals
        rw [h46] at q
        have H46 := Aside0.mk h46
        clear h46
        go_wp2_with fail
        go_roundg (m - (j + 1))
        case measure => have := HG.out; omega
        case rel =>
          have h46 := H46.out
          have hcs := HX2.out
          first
          | (rw [if_pos (by simpa using h46)] at hcs; exact ⟨j + 1, i + 1, c, rfl, by go_num, by have := HG.out; omega, HW, ⟨by have := HI.out.1; omega, by omega⟩⟩)
          | (rw [if_neg (by simpa using h46)] at hcs; exact ⟨j + 1, i + 1, c + 1, by go_num, by go_num, by have := HG.out; omega, HW, ⟨by have := HI.out.1; omega, by omega⟩⟩)
    · have k1 : decide ((i : Int) < max (a : Int) (b : Int)) = false := decide_eq_false (by rw [HX.out, HI.out.1]; have := HG.out; omega)
      go_wp2_with fail
      go_ret
      exact ⟨ret_int (by rw [HI.out.2, show j = m by have := HG.out; omega]), HW.out⟩
end Go.Proofs.YtllbkppdkldmiaaGreatDoor.K

/- Walks: reach.Between, reach.Can; references. -/
namespace Go.Proofs.YtllbkppdkldmiaaGreatDoor.K
open Go.RowKit Go.Lib Go.Proofs.YtllbkppdkldmiaaGreatDoorW.PrintWords Go.Proofs.YtllbkppdkldmiaaGreatDoor.Sp
set_option linter.unusedVariables false
set_option linter.unusedSimpArgs false
def betwS (s : ByteArray) (a b : Int) : Int := if isBoard s = true ∧ (0 ≤ a ∧ a < 90) ∧ (0 ≤ b ∧ b < 90) then betwN (cel s) a.toNat b.toNat else -1
set_option maxRecDepth 100000 in
set_option maxHeartbeats 2000000 in
theorem betw_no (s : ByteArray) (a b : Int) (h : ¬ (isBoard s = true ∧ (0 ≤ a ∧ a < 90) ∧ (0 ≤ b ∧ b < 90))) (w : World) : Calls Tryz.prog 62 #[.string s, .int .i64 a, .int .i64 b] w fun e w' => e = .returned (.int .i64 (-1)) ∧ Below w.heap.size w w' := by
  have HI := Aside0.mk (fun W => is_c s W)
  have HQA := Aside0.mk (fun W => isq_c a W)
  have HQB := Aside0.mk (fun W => isq_c b W)
  cases hs : isBoard s with
  | false =>
    rw [hs] at HI
    clear h hs HQA HQB
    go_enter Tryz.func62, Tryz.ntmps62
    go_wp2_with (go_at_call 37; refine (HI.out _).mono ?_; rintro e w1 ⟨rfl, hb1⟩; have HB1 := Aside0.mk hb1; clear hb1)
    go_ret
    exact ⟨rfl, HB1.out⟩
  | true =>
    rw [hs] at HI
    cases ha : decide (0 ≤ a ∧ a < 90) with
    | false =>
      rw [ha] at HQA
      clear h hs HQB ha
      go_enter Tryz.func62, Tryz.ntmps62
      go_wp2_with (first | (go_at_call 37; refine (HI.out _).mono ?_; rintro e w1 ⟨rfl, hb1⟩; have HB1 := Aside0.mk hb1; clear hb1) | (go_at_call 94; (with_reducible refine (HQA.out _).mono ?_); rintro e w2 ⟨rfl, rfl⟩))
      go_ret
      exact ⟨rfl, HB1.out⟩
    | true =>
      have hb : decide (0 ≤ b ∧ b < 90) = false := decide_eq_false fun hb => h ⟨hs, of_decide_eq_true ha, hb⟩
      rw [ha] at HQA
      rw [hb] at HQB
      clear h hs ha hb
      go_enter Tryz.func62, Tryz.ntmps62
      go_wp2_with (first | (go_at_call 37; refine (HI.out _).mono ?_; rintro e w1 ⟨rfl, hb1⟩; have HB1 := Aside0.mk hb1; clear hb1) | (go_at_call 94; (with_reducible refine (HQA.out _).mono ?_); rintro e w2 ⟨rfl, rfl⟩; clear HQA) | (go_at_call 94; (with_reducible refine (HQB.out _).mono ?_); rintro e w2 ⟨rfl, rfl⟩))
      go_ret
      exact ⟨rfl, HB1.out⟩
theorem betw_c (s : ByteArray) (a b : Int) (w : World) : Calls Tryz.prog 62 #[.string s, .int .i64 a, .int .i64 b] w fun e w' => e = .returned (.int .i64 (betwS s a b)) ∧ Below w.heap.size w w' := by
  by_cases h : isBoard s = true ∧ (0 ≤ a ∧ a < 90) ∧ (0 ≤ b ∧ b < 90)
  · rw [show betwS s a b = betwN (cel s) a.toNat b.toNat from if_pos h]
    have e1 : a = ((a.toNat : Nat) : Int) := by omega
    have e2 : b = ((b.toNat : Nat) : Int) := by omega
    have := betw_yes s h.1 a.toNat b.toNat (by omega) (by omega) w
    rw [← e1, ← e2] at this
    exact this
  · rw [show betwS s a b = -1 from if_neg h]
    exact betw_no s a b h w
/-- Does the piece on a square reach another one? -/
def canS (s : ByteArray) (a b : Int) : Bool := (allS s a).any (fun n => (n : Int) == b)
theorem allS_len (s : ByteArray) (a : Int) : (allS s a).length ≤ 1000000 := by
  unfold allS
  split
  · unfold allN
    refine Nat.le_trans (List.length_filter_le _ _) ?_
    simp
  · simp
theorem can_c (s : ByteArray) (a b : Int) (w : World) : Calls Tryz.prog 28 #[.string s, .int .i64 a, .int .i64 b] w fun e w' => e = .returned (.bool (canS s a b)) ∧ Below w.heap.size w w' := by
  have HA := Aside0.mk (fun W => all_c s a W)
  have HC := Aside0.mk (fun (W : World) (B : Nat) (v : Value) (h : IntsAt W B v (allS s a)) => containsI_c W B v (allS s a) b h (allS_len s a))
  have HE := Aside0.mk (show canS s a b = (allS s a).any (fun n => (n : Int) == b) from rfl)
  generalize canS s a b = r at *
  rw [← HE.out] at HC
  generalize allS s a = l at *
  go_enter Tryz.func28, Tryz.ntmps28
  go_wp2_with (first
    | (go_at_call 66; refine (HA.out _).mono ?_; rintro e w1 ⟨v, rfl, hv, hb⟩; have HV := Aside0.mk hv; have HB := Aside0.mk hb; clear hv hb)
    | (go_at_call 65; refine (HC.out _ _ _ HV.out).mono ?_; rintro e w2 ⟨rfl, rfl⟩))
  go_ret
  exact ⟨rfl, HB.out⟩
end Go.Proofs.YtllbkppdkldmiaaGreatDoor.K

/- Walks: check.isSide, Attackers. -/
namespace Go.Proofs.YtllbkppdkldmiaaGreatDoor.K
open Go.RowKit Go.Lib Go.Proofs.YtllbkppdkldmiaaGreatDoorW.PrintWords Go.Proofs.YtllbkppdkldmiaaGreatDoor.Sp
set_option linter.unusedVariables false
set_option linter.unusedSimpArgs false
theorem isSide_c (a : Int) (w : World) : Calls Tryz.prog 53 #[.int .i64 a] w fun e w' => e = .returned (.bool (decide (a = 0 ∨ a = 1))) ∧ w' = w := by
  cases h0 : (a == 0)
  all_goals
    have H0 := Aside0.mk h0
    go_enter Tryz.func53, Tryz.ntmps53
    go_wp2_with fail
    go_ret
    refine ⟨ret_bool ?_, rfl⟩
    have h0 := H0.out
    rw [Bool.eq_iff_iff]; simp_all
/-- The file of anything. -/
def fileS (n : Int) : Int := if 0 ≤ n ∧ n < 90 then n % 9 else -1
theorem file_all (n : Int) (w : World) : Calls Tryz.prog 54 #[.int .i64 n] w fun e w' => e = .returned (.int .i64 (fileS n)) ∧ w' = w := by
  by_cases h : 0 ≤ n ∧ n < 90
  · have e1 : n = ((n.toNat : Nat) : Int) := by omega
    have := file_c n.toNat (by omega) w
    rw [← e1] at this
    rw [show fileS n = ((n.toNat % 9 : Nat) : Int) by unfold fileS; rw [if_pos h]; omega]
    exact this
  · rw [show fileS n = -1 from if_neg h]
    have HQ := isSquare_c n w
    rw [decide_eq_false h] at HQ
    have HQ := Aside0.mk HQ
    clear h
    go_enter Tryz.func54, Tryz.ntmps54
    go_wp2_with (first | (go_at_call 64; refine HQ.out.mono ?_; rintro e w' ⟨rfl, rfl⟩))
    go_ret
    exact ⟨rfl, rfl⟩
theorem att_closure (s : ByteArray) (n x : Int) (B1 B2 : Nat) (w : World) (c1 : w.cell? ⟨B1, 0, none⟩ = some (.string s)) (c2 : w.cell? ⟨B2, 0, none⟩ = some (.int .i64 n)) :
    Calls Tryz.prog 57 #[.int .i64 x, .pointer (some ⟨B1, 0, none⟩), .pointer (some ⟨B2, 0, none⟩)] w fun e w' => e = .returned (.bool (!canS s x n)) ∧ Below w.heap.size w w' := by
  have HC := Aside0.mk (fun W => can_c s x n W)
  generalize canS s x n = r at *
  go_enter Tryz.func57, Tryz.ntmps57
  go_wp2_with (go_at_call 28; refine (HC.out _).mono ?_; rintro e w1 ⟨rfl, hb⟩; have HB := Aside0.mk hb; clear hb)
  go_ret
  exact ⟨rfl, HB.out⟩
theorem att_del (s : ByteArray) (n : Int) (B1 B2 : Nat) (h12 : B1 < B2) (v : Value) (l : List Int) (W : World) (c1 : W.cell? ⟨B1, 0, none⟩ = some (.string s)) (c2 : W.cell? ⟨B2, 0, none⟩ = some (.int .i64 n)) (ho : OwnZ W (B2 + 1) v l) :
    Calls Tryz.prog 55 #[v, .func (.func 57) #[] #[.pointer (some ⟨B1, 0, none⟩), .pointer (some ⟨B2, 0, none⟩)]] W fun e w' => ∃ v', e = .returned v' ∧ OwnZ w' (B2 + 1) v' (l.filter (fun y => canS s y n)) ∧ Below (B2 + 1) W w' := by
  have := del_Z 57 #[.pointer (some ⟨B1, 0, none⟩), .pointer (some ⟨B2, 0, none⟩)] (fun y => !canS s y n) (enters_of Tryz.func57 (by kernel_rfl) rfl) (B2 + 1) v l W (World.block_lt_of_cell? W _ c2) ho (by
    intro b hb _ _ W2 y hy hk
    have key : ∀ g : Nat, g < W.heap.size → g ≠ b → W2.cell? ⟨g, 0, none⟩ = W.cell? ⟨g, 0, none⟩ := fun g hg hne => by
      have := hk.2 g hg hne (by simp)
      unfold World.cell?; simp only [this]
    exact att_closure s n y B1 B2 W2 ((key B1 (World.block_lt_of_cell? W _ c1) (by omega)).trans c1) ((key B2 (World.block_lt_of_cell? W _ c2) (by omega)).trans c2))
  simpa using this
/-- The other side's pawn. -/
def pawnO (a : Int) : Nat := if a = 0 then 112 else 80
def attS (s : ByteArray) (n a : Int) : List Nat := if (a = 0 ∨ a = 1) ∧ 0 ≤ n ∧ n < 90 then (piecesS (putS s n (pawnO a)) a).filter (fun f => canS (putS s n (pawnO a)) (f : Int) n) else []
/-- The boxes of Attackers. -/
structure AtAt (w0 W : World) (s : ByteArray) (n : Int) : Prop where
  c1 : W.cell? ⟨w0.heap.size, 0, none⟩ = some (.string s)
  c2 : W.cell? ⟨w0.heap.size + 1, 0, none⟩ = some (.int .i64 n)
  fz : W.frozen? ⟨w0.heap.size, 0, none⟩ = false
  bel : Below w0.heap.size w0 W
theorem AtAt.lt {w0 W : World} {s : ByteArray} {n : Int} (h : AtAt w0 W s n) : w0.heap.size + 1 < W.heap.size := World.block_lt_of_cell? W _ h.c2
theorem AtAt.below {w0 W W' : World} {s : ByteArray} {n : Int} (h : AtAt w0 W s n) (hb : Below W.heap.size W W') : AtAt w0 W' s n := by
  have := h.lt
  exact ⟨(hb.cell (p := ⟨w0.heap.size, 0, none⟩) (by show w0.heap.size < _; omega)).trans h.c1, (hb.cell (p := ⟨w0.heap.size + 1, 0, none⟩) (by show w0.heap.size + 1 < _; omega)).trans h.c2, (hb.frozen (p := ⟨w0.heap.size, 0, none⟩) (by show w0.heap.size < _; omega)).trans h.fz, h.bel.trans (hb.mono h.bel.size)⟩
theorem AtAt.new (w : World) (s : ByteArray) (n : Int) : AtAt w ((w.alloc (.cells #[.string s] 9)).alloc (.cells #[.int .i64 n] 3)) s n :=
  ⟨by simp [World.cell?_alloc_at, World.cell?_alloc_past], by simp [World.cell?_alloc_at], ((below_alloc (Below.refl (w.alloc (.cells #[.string s] 9)).heap.size _) _).frozen (p := ⟨w.heap.size, 0, none⟩) (by simp)).trans (World.frozen?_alloc_at _ _ _ 0 rfl), below_alloc (below_alloc (Below.refl _ _) _) _⟩
theorem AtAt.put {w0 W : World} {s : ByteArray} {n : Int} (h : AtAt w0 W s n) (t : ByteArray) : AtAt w0 (W.setCell ⟨w0.heap.size, 0, none⟩ (.string t)) t n := by
  have h1 := h.c1
  have h2 := h.c2
  have h3 := h.fz
  exact ⟨by simp [go_sem, h1], by simp [go_sem, h2], by simp [go_sem, h3], h.bel.setCell (p := ⟨w0.heap.size, 0, none⟩) (Nat.le_refl _) _⟩
set_option maxRecDepth 100000 in
set_option maxHeartbeats 2000000 in
theorem att_no (s : ByteArray) (n a : Int) (h : ¬ ((a = 0 ∨ a = 1) ∧ 0 ≤ n ∧ n < 90)) (w : World) : Calls Tryz.prog 18 #[.string s, .int .i64 n, .int .i64 a] w fun e w' => ∃ v, e = .returned v ∧ IntsAt w' w.heap.size v [] ∧ Below w.heap.size w w' := by
  have HS := Aside0.mk (fun W => isSide_c a W)
  have HF := Aside0.mk (fun W => file_all n W)
  have HA := Aside0.mk (AtAt.new w s n)
  have HV := Aside0.mk (fun (W : World) => ints_of (l := []) (own_znil W w.heap.size))
  cases ha : decide (a = 0 ∨ a = 1) with
  | false =>
    rw [ha] at HS
    clear h ha
    go_enter Tryz.func18, Tryz.ntmps18
    go_wp2_with (go_at_call 53; refine (HS.out _).mono ?_; rintro e w1 ⟨rfl, rfl⟩)
    go_ret
    exact ⟨_, rfl, HV.out _, HA.out.bel⟩
  | true =>
    rw [ha] at HS
    have hf : fileS n = -1 := if_neg fun hn => h ⟨of_decide_eq_true ha, hn⟩
    rw [hf] at HF
    clear h ha hf
    go_enter Tryz.func18, Tryz.ntmps18
    go_wp2_with (first | (go_at_call 53; refine (HS.out _).mono ?_; rintro e w1 ⟨rfl, rfl⟩) | (go_at_call 54; refine (HF.out _).mono ?_; rintro e w1 ⟨rfl, rfl⟩))
    go_ret
    exact ⟨_, rfl, HV.out _, HA.out.bel⟩
end Go.Proofs.YtllbkppdkldmiaaGreatDoor.K

/- Walks: Attackers, of squares. -/
namespace Go.Proofs.YtllbkppdkldmiaaGreatDoor.K
open Go.RowKit Go.Lib Go.Proofs.YtllbkppdkldmiaaGreatDoorW.PrintWords Go.Proofs.YtllbkppdkldmiaaGreatDoor.Sp
set_option linter.unusedVariables false
set_option linter.unusedSimpArgs false
set_option maxRecDepth 100000 in
set_option maxHeartbeats 2000000 in
theorem att_yes (s : ByteArray) (n : Nat) (hn : n < 90) (a : Int) (ha : a = 0 ∨ a = 1) (w : World) (hT : TabW w) : Calls Tryz.prog 18 #[.string s, .int .i64 (n : Int), .int .i64 a] w fun e w' => ∃ v, e = .returned v ∧ IntsAt w' w.heap.size v (attS s (n : Int) a) ∧ Below w.heap.size w w' := by
  have HT := Aside0.mk (fun (W : World) (hb : Below w.heap.size w W) => hT.below hb)
  have HE := Aside0.mk (show attS s (n : Int) a = (piecesS (putS s n (pawnO a)) a).filter (fun f : Nat => canS (putS s n (pawnO a)) (f : Int) n) from if_pos ⟨ha, by omega, by omega⟩)
  have HA := Aside0.mk (AtAt.new w s n)
  have HS := Aside0.mk (fun W => isSide_c a W)
  rw [decide_eq_true ha] at HS
  have HF := Aside0.mk (fun W => file_c n hn W)
  have HP := Aside0.mk (fun W => put_c s n (pawnO a) (by unfold pawnO; split <;> omega) W)
  have HPC := Aside0.mk (fun (W : World) (hT : TabW W) => pieces_c (putS s n (pawnO a)) a W hT)
  have HD := Aside0.mk (fun (B1 B2 : Nat) (h12 : B1 < B2) (v : Value) (l : List Int) (W : World) c1 c2 ho => att_del (putS s n (pawnO a)) (n : Int) B1 B2 h12 v l W c1 c2 ho)
  have HM := Aside0.mk (show ∀ l : List Nat, (ints l).filter (fun y => canS (putS s n (pawnO a)) y n) = ints (l.filter (fun f : Nat => canS (putS s n (pawnO a)) (f : Int) n)) from fun l => by unfold ints; rw [List.filter_map]; rfl)
  have f0 : ¬ (((n % 9 : Nat) : Int) < 0) := by omega
  generalize n % 9 = nf at *
  have hc : (a = 0 ∧ pawnO a = 112) ∨ (a = 1 ∧ pawnO a = 80) := by
    rcases ha with h | h <;> subst h
    · exact .inl ⟨rfl, rfl⟩
    · exact .inr ⟨rfl, rfl⟩
  clear hT hn ha
  generalize putS s n (pawnO a) = t at *
  rcases hc with ⟨rfl, hp⟩ | ⟨rfl, hp⟩
  all_goals
    rw [hp] at HP
    clear hp
    go_enter Tryz.func18, Tryz.ntmps18
    obtain ⟨c1, c2, fz, _⟩ := HA.out
    go_upto_region 3 with (first | (go_at_call 53; refine (HS.out _).mono ?_; rintro e w1 ⟨rfl, rfl⟩) | (go_at_call 54; refine (HF.out _).mono ?_; rintro e w1 ⟨rfl, rfl⟩))
    generalize (w.alloc (.cells #[.string s] 9)).alloc (.cells #[.int .i64 (n : Int)] 3) = w2 at *
    go_still_tail 4, (by kernel_rfl)
    change wpList _ _ _ _ _ w2.drew
    have HA2 := Aside0.mk (HA.out.below (pw_below_drewN (Below.refl _ _) 1))
    change Aside0 (AtAt w w2.drew s (n : Int)) at HA2
    clear HA c1 c2 fz
    generalize w2.drew = w3 at *
    go_upto_region 4 with (first
      | (go_at_call 36; refine (HP.out _).mono ?_; rintro e w4 ⟨rfl, hb⟩; have HA4 := Aside0.mk (HA2.out.below hb); clear hb; obtain ⟨c1, c2, fz, _⟩ := HA4.out))
    have HA5 := Aside0.mk (HA4.out.put t)
    clear c1 c2 fz HA4 HA2 HP
    generalize w4.setCell ⟨w.heap.size, 0, none⟩ (.string t) = w5 at *
    obtain ⟨c1, c2, fz, _⟩ := HA5.out
    go_wp2_with (first
      | (go_at_call 56; refine (HPC.out _ (HT.out _ HA5.out.bel)).mono ?_; rintro e w6 ⟨v6, rfl, ho, hb⟩; have HA6 := Aside0.mk (HA5.out.below hb); have HO6 := Aside0.mk (ho.lower (B' := w.heap.size + 1 + 1) HA5.out.lt); clear ho hb)
      | (go_at_call 55; refine (HD.out _ _ (Nat.lt_succ_self _) _ _ _ HA6.out.c1 HA6.out.c2 HO6.out).mono ?_; rintro e w7 ⟨v7, rfl, ho, hb⟩; have HO7 := Aside0.mk (ho.lower (B' := w.heap.size) (by omega)); have HB7 := Aside0.mk (HA6.out.bel.trans (hb.mono (by omega))); clear ho hb))
    go_ret
    have ho := HO7.out
    rw [HM.out] at ho
    rw [HE.out]
    exact ⟨_, rfl, ints_of ho, HB7.out⟩
theorem att_c (s : ByteArray) (n a : Int) (w : World) (hT : TabW w) : Calls Tryz.prog 18 #[.string s, .int .i64 n, .int .i64 a] w fun e w' => ∃ v, e = .returned v ∧ IntsAt w' w.heap.size v (attS s n a) ∧ Below w.heap.size w w' := by
  by_cases h : (a = 0 ∨ a = 1) ∧ 0 ≤ n ∧ n < 90
  · have e1 : n = ((n.toNat : Nat) : Int) := by omega
    have := att_yes s n.toNat (by omega) a h.1 w hT
    rw [← e1] at this
    exact this
  · rw [show attS s n a = [] from if_neg h]
    exact att_no s n a h w
end Go.Proofs.YtllbkppdkldmiaaGreatDoor.K

/- Walks: General, Facing, In. -/
namespace Go.Proofs.YtllbkppdkldmiaaGreatDoor.K
open Go.RowKit Go.Lib Go.Proofs.YtllbkppdkldmiaaGreatDoorW.PrintWords Go.Proofs.YtllbkppdkldmiaaGreatDoor.Sp
set_option linter.unusedVariables false
set_option linter.unusedSimpArgs false
def kingO (a : Int) : Nat := if a = 0 then 75 else 107
def hdZ : List Nat → Int
  | [] => -1
  | n :: _ => n
def genS (s : ByteArray) (a : Int) : Int := if a = 0 ∨ a = 1 then hdZ (findS s (kingO a)) else -1
theorem findS_len (s : ByteArray) (c : Nat) : (findS s c).length ≤ 90 := by
  unfold findS
  split
  · refine Nat.le_trans (List.length_filter_le _ _) ?_
    simp
  · simp
theorem findS_lt (s : ByteArray) (c : Nat) : ∀ n ∈ findS s c, n < 90 ∧ isBoard s = true ∧ cel s n = c := by
  intro n hn
  unfold findS at hn
  split at hn
  · rename_i h
    obtain ⟨h1, h2⟩ := List.mem_filter.1 hn
    exact ⟨List.mem_range.1 h1, h, of_decide_eq_true h2⟩
  · simp at hn
set_option maxRecDepth 100000 in
set_option maxHeartbeats 2000000 in
theorem gen_c (s : ByteArray) (a : Int) (w : World) (hT : TabW w) : Calls Tryz.prog 20 #[.string s, .int .i64 a] w fun e w' => e = .returned (.int .i64 (genS s a)) ∧ Below w.heap.size w w' := by
  have HS := Aside0.mk (fun W => isSide_c a W)
  by_cases ha : a = 0 ∨ a = 1
  case neg =>
    rw [show genS s a = -1 from if_neg ha]
    rw [decide_eq_false ha] at HS
    have HB := Aside0.mk (Below.refl w.heap.size w)
    clear ha hT
    go_enter Tryz.func20, Tryz.ntmps20
    go_wp2_with (go_at_call 53; refine (HS.out _).mono ?_; rintro e w1 ⟨rfl, rfl⟩)
    go_ret
    exact ⟨rfl, HB.out⟩
  case pos =>
    rw [decide_eq_true ha] at HS
    have HG := Aside0.mk (show genS s a = hdZ (findS s (kingO a)) from if_pos ha)
    have HF := Aside0.mk (find_c s (kingO a) w hT)
    have HL := Aside0.mk (findS_len s (kingO a))
    have hc : (a = 0 ∧ kingO a = 75) ∨ (a = 1 ∧ kingO a = 107) := by
      rcases ha with h | h <;> subst h
      · exact .inl ⟨rfl, rfl⟩
      · exact .inr ⟨rfl, rfl⟩
    clear ha hT
    generalize findS s (kingO a) = l at *
    generalize hgen : genS s a = gn at *
    clear hgen
    rcases hc with ⟨rfl, hp⟩ | ⟨rfl, hp⟩
    all_goals
      rw [hp] at HF
      clear hp
      go_enter Tryz.func20, Tryz.ntmps20
      go_upto_region 4 with (first
        | (go_at_call 53; refine (HS.out _).mono ?_; rintro e w1 ⟨rfl, rfl⟩)
        | (go_at_call 60; refine HF.out.mono ?_; rintro e w2 ⟨v, rfl, ho, hb⟩; have HB := Aside0.mk hb; have HV := Aside0.mk (ints_of ho); obtain ⟨A, cap, hv, _⟩ := (ints_of ho).out; subst hv; clear ho hb))
      go_loopg [15] 1 (fun gg s15 wr => s15 = .int .i64 0 ∧ wr = w2)
      case atStart => exact ⟨rfl, rfl⟩
      case round =>
        obtain ⟨rfl, rfl⟩ := hrel
        cases l with
        | nil =>
          have z : ¬ ((0 : Int) < ((([] : List Nat).length : Nat) : Int)) := by simp
          go_wp2_with fail
          go_ret
          exact ⟨ret_int HG.out.symm, HB.out⟩
        | cons n tl =>
          obtain ⟨A', cap', hv, hcap, hx⟩ := HV.out.out
          simp only [Value.slice.injEq, true_and] at hv
          obtain ⟨rfl, rfl⟩ := hv
          obtain ⟨g, rfl, _, _, hcell⟩ := hx.resolve_left (by simp)
          have hc0 := hcell 0 (by simp)
          rw [List.getElem_cons_zero] at hc0
          have z : (0 : Int) < (((n :: tl).length : Nat) : Int) := by rw [List.length_cons]; omega
          have z2 : (0 : Int) < ((tl.length : Nat) : Int) + 1 := by omega
          have hl := HL.out
          clear hcell hx hcap HV
          go_wp2_with fail
          go_ret
          exact ⟨ret_int HG.out.symm, HB.out⟩
/-- Facing. -/
def facS (s : ByteArray) : Bool := decide (0 ≤ genS s 0) && (decide (0 ≤ genS s 1) && ((fileS (genS s 0) == fileS (genS s 1)) && (betwS s (genS s 0) (genS s 1) == 0)))
set_option maxRecDepth 100000 in
set_option maxHeartbeats 2000000 in
theorem fac_c (s : ByteArray) (w : World) (hT : TabW w) : Calls Tryz.prog 22 #[.string s] w fun e w' => e = .returned (.bool (facS s)) ∧ Below w.heap.size w w' := by
  have HT := Aside0.mk (fun (W : World) (hb : Below w.heap.size w W) => hT.below hb)
  have HG0 := Aside0.mk (gen_c s 0 w hT)
  have HG1 := Aside0.mk (fun (W : World) (hT : TabW W) => gen_c s 1 W hT)
  have HF0 := Aside0.mk (fun W => file_all (genS s 0) W)
  have HF1 := Aside0.mk (fun W => file_all (genS s 1) W)
  have HB2 := Aside0.mk (fun W => betw_c s (genS s 0) (genS s 1) W)
  unfold facS
  generalize betwS s (genS s 0) (genS s 1) = bt at *
  generalize genS s 0 = a at *
  generalize genS s 1 = b at *
  generalize fileS a = fa at *
  generalize fileS b = fb at *
  clear hT
  cases h0 : decide (0 ≤ a)
  all_goals cases h1 : decide (0 ≤ b)
  all_goals cases h2 : (fa == fb)
  all_goals cases h3 : (bt == 0)
  all_goals
    go_enter Tryz.func22, Tryz.ntmps22
    go_wp2_with (first
      | (go_at_call 20; (with_reducible refine HG0.out.mono ?_); rintro e w1 ⟨rfl, hb⟩; have HB := Aside0.mk hb; clear hb)
      | (go_at_call 20; (with_reducible refine (HG1.out _ (HT.out _ HB.out)).mono ?_); rintro e w2 ⟨rfl, hb⟩; have HC := Aside0.mk (HB.out.trans (hb.mono HB.out.size)); clear hb)
      | (go_at_call 54; (with_reducible refine (HF0.out _).mono ?_); rintro e w3 ⟨rfl, rfl⟩)
      | (go_at_call 54; (with_reducible refine (HF1.out _).mono ?_); rintro e w3 ⟨rfl, rfl⟩)
      | (go_at_call 62; refine (HB2.out _).mono ?_; rintro e w4 ⟨rfl, hb⟩; have HD := Aside0.mk (HC.out.trans (hb.mono HC.out.size)); clear hb))
    go_ret
    first | exact ⟨by simp_all, HD.out⟩ | exact ⟨by simp_all, HC.out⟩
end Go.Proofs.YtllbkppdkldmiaaGreatDoor.K
