/- Walks and plain laws that several statements lean on, joined: no statement of the seat is proved here. -/
import Derived.Deep.AppendLies
import Derived.Deep.LoopGhost
import Derived.Deep.QuietTactic
import Derived.Test.YtafmapadkpjliaaGreatDoorB4
import Derived.Test.YtafmapadkpjliaaGreatDoorB2
import Derived.Test.YtafmapadkpjliaaGreatDoorB1

/- Walks: reach's horse, chariot, cannon, way. -/
namespace Go.Proofs.YtafmapadkpjliaaGreatDoor.K
open Go.RowKit Go.Lib Go.Proofs.YtafmapadkpjliaaGreatDoorW.PrintWords Go.Proofs.YtafmapadkpjliaaGreatDoorW.PrintLast Go.Proofs.YtafmapadkpjliaaGreatDoorW.PrintMore Go.Proofs.YtafmapadkpjliaaGreatDoor.Sp
set_option linter.unusedVariables false
set_option linter.unusedSimpArgs false
attribute [local go_sem] cel_get   -- for this text's walks alone
/-- What a round of the horse keeps. -/
structure HsAt (w0 W : World) (s : ByteArray) (a x g : Nat) (v : Value) (l : List Int) (bw : Nat) (d1 d2 : Int) : Prop where
  dr : DrAt w0 W s a x g v l
  b0 : W.cell? ⟨bw, 0, none⟩ = some (.int .i64 d1)
  b1 : W.cell? ⟨bw, 1, none⟩ = some (.int .i64 d2)
  far : ∀ k, v.ownBlock = some k → k ≠ bw
theorem HsAt.below {w0 W W' : World} {s : ByteArray} {a x g : Nat} {v : Value} {l : List Int} {bw : Nat} {d1 d2 : Int} (h : HsAt w0 W s a x g v l bw d1 d2) (hb : Below W.heap.size W W') : HsAt w0 W' s a x g v l bw d1 d2 :=
  ⟨h.dr.below hb, (hb.cell (p := ⟨bw, 0, none⟩) (World.block_lt_of_cell? W _ h.b0)).trans h.b0, (hb.cell (p := ⟨bw, 1, none⟩) (World.block_lt_of_cell? W _ h.b1)).trans h.b1, h.far⟩
theorem HsAt.drew {w0 W : World} {s : ByteArray} {a x g : Nat} {v : Value} {l : List Int} {bw : Nat} {d1 d2 : Int} (h : HsAt w0 W s a x g v l bw d1 d2) : HsAt w0 W.drew s a x g v l bw d1 d2 := h.below (pw_below_drewN (Below.refl _ _) 1)
theorem HsAt.new {w0 W : World} {s : ByteArray} {a x g : Nat} {v : Value} {l : List Int} (h : DrAt w0 W s a x g v l) (d1 d2 : Int) : HsAt w0 (W.alloc (.cells #[.int .i64 d1, .int .i64 d2] 127)) s a x g v l W.heap.size d1 d2 :=
  ⟨h.below (below_alloc (Below.refl _ _) _), by simp [World.cell?_alloc_at], by simp [World.cell?_alloc_at], fun k hk => by have := (h.own.lt k hk).2; omega⟩
/-- Two numbers are appended, in a region. -/
theorem step_app2 {ops : Array Oper} {o : Oper} {a : Act} {K : Act → World → Prop} {Q : Exit → Act → World → Prop} {E : Prop} (W : World) (hgd : o.guard = none) (s x : Operand)
    (ho : o.op = .call { callee := .builtin .append, args := #[s, x], argTypes := #[94, 94] }) (base : Nat) (v : Value) (xs : List Int) (y1 y2 : Int) (hs : a.eval s = v) (hx : a.eval x = .slice (some ⟨W.heap.size, 0, none⟩) 2 2)
    (hown : OwnZ W base v xs) (hlen : xs.length ≤ 8) (hbase : base ≤ W.heap.size)
    (h : ∀ g cap w', w'.ownsRow base 3 1 (.slice (some ⟨g, 0, none⟩) (xs.length + 2) cap) (xs.length + 2) (nums .i64 xs ++ nums .i64 [y1, y2]) → (W.alloc (.cells #[.int .i64 y1, .int .i64 y2] 3)).grownBy w' v.ownBlock → K (a.put o.dst (.slice (some ⟨g, 0, none⟩) (xs.length + 2) cap)) w') :
    if Region.wanted o (yielded ops a.tmps) = true then Oper.wp Tryz.prog o a (W.alloc (.cells #[.int .i64 y1, .int .i64 y2] 3)) K Q else E := by
  obtain ⟨i0, hi0, hx0⟩ := Option.map_eq_some_iff.1 info_intZ
  simp only [Prod.mk.injEq] at hx0
  exact step_append_lies _ hgd s x _ ho base 3 i0 _ 1 8 Tryz.underlying94 hi0 hx0.1 hx0.2.1 hx0.2.2 rfl (by omega) v xs.length (nums .i64 xs) hs (OwnZ.below hown (below_alloc (Below.refl _ _) _)) ⟨W.heap.size, 0, none⟩ 2 2 (nums .i64 [y1, y2]) hx rfl
    (World.news_of_block (cs := #[.int .i64 y1, .int .i64 y2]) (t := 3) (fr := (0, 0)) (heap_alloc_new _ _)) (fun u hu => by obtain ⟨z, _, rfl⟩ := List.mem_map.1 hu; rfl) (by omega) (by unfold maxLen; omega) (by omega) (by simp; omega) _ rfl
    (fun g cap w' h1 h2 _ _ => h g cap w' h1 h2)
theorem HsAt.appended {w0 W W' : World} {s : ByteArray} {a x g : Nat} {v : Value} {l : List Int} {bw : Nat} {d1 d2 : Int} (h : HsAt w0 W s a x g v l bw d1 d2) (o : Obj) (hg : (W.alloc o).grownBy W' v.ownBlock) (v' : Value) (ys : List Int) (hy : ys.length = 2) (ho : W'.ownsRow (g + 1) 3 1 v' (l.length + 2) (nums .i64 l ++ nums .i64 ys)) :
    DrAt w0 W' s a x g v' (l ++ ys) ∧ W'.cell? ⟨bw, 0, none⟩ = some (.int .i64 d1) ∧ W'.cell? ⟨bw, 1, none⟩ = some (.int .i64 d2) := by
  have h1 := h.below (below_alloc (Below.refl _ _) o)
  have hlt : bw < (W.alloc o).heap.size := World.block_lt_of_cell? _ _ h1.b0
  have hne : some bw ≠ v.ownBlock := fun he => h.far bw he.symm rfl
  have hz : g + 1 ≤ (W.alloc o).heap.size := h1.dr.dlt.2
  have HB7 := (Below.refl (g + 1) _).grown hg hz (fun k hk => (h.dr.own.lt k hk).1)
  refine ⟨h1.dr.keep HB7 ?_, (hg.cell_far ⟨bw, 0, none⟩ hlt hne).trans h1.b0, (hg.cell_far ⟨bw, 1, none⟩ hlt hne).trans h1.b1⟩
  unfold OwnZ
  rw [List.length_append, nums_append, hy]
  exact ho
theorem horse_len (s : ByteArray) (a : Nat) (i : Nat) (hi : i ≤ 4) : ((dirs.take i).flatMap (horseAdd s a)).length ≤ 8 := by
  have h2 : ∀ w, (horseAdd s a w).length ≤ 2 := fun w => by unfold horseAdd; split <;> simp [horseL]
  have a0 := h2 (1, 0); have a1 := h2 (-1, 0); have a2 := h2 (0, 1); have a3 := h2 (0, -1)
  match i, hi with
  | 0, _ | 1, _ | 2, _ | 3, _ | 4, _ => simp only [dirs, List.take_succ_cons, List.take_zero, List.flatMap_cons, List.flatMap_nil, List.length_append, List.length_nil]; omega
set_option maxRecDepth 100000 in
set_option maxHeartbeats 4000000 in
theorem vhorse_c (s : ByteArray) (hs : s.size = 90) (a x : Nat) (ha : a < 90) (w : World) : Calls Tryz.prog 166 #[vwV s a x] w fun e w' => ∃ v, e = .returned v ∧ OwnZ w' w.heap.size v (dirs.flatMap (horseAdd s a)) ∧ Below w.heap.size w w' := by
  have HS := Aside0.mk (fun (f r : Int) (h1 : -60 ≤ f ∧ f ≤ 60) (h2 : -60 ≤ r ∧ r ≤ 60) (W : World) => step_c s a x ha f r h1 h2 W)
  have HE := Aside0.mk (fun n W => empty_c s hs a x n W)
  obtain ⟨i0, hi0, hx0⟩ := Option.map_eq_some_iff.1 info_intZ
  simp only [Prod.mk.injEq] at hx0
  have HZ := Aside0.mk (⟨hi0, hx0⟩ : _ ∧ _)
  have hu := Tryz.underlying152
  clear hs ha hx0 hi0
  go_enter Tryz.func166, Tryz.ntmps166
  go_wp2_with fail
  have HD := Aside0.mk (dr_new w s a x)
  generalize ((w.alloc (.cells #[.string s, .int .i64 (a : Int), .int .u8 (x : Int)] 152)).alloc (.cells #[.int .i64 1, .int .i64 0, .int .i64 (-1), .int .i64 0, .int .i64 0, .int .i64 1, .int .i64 0, .int .i64 (-1)] 127)) = W2 at *
  have HD := Aside0.mk (show DrAt w W2 s a x (w.heap.size + 1) (.slice none 0 0) ((dirs.take 0).flatMap (horseAdd s a)) from HD.out)
  go_loopg [3, 5, 12] 4 (fun gg s3 _ s12 wr => ∃ i : Nat, s12 = .int .i64 (i : Int) ∧ i + gg = 4 ∧ Aside0 (DrAt w wr s a x (w.heap.size + 1) s3 ((dirs.take i).flatMap (horseAdd s a))))
  case atStart => exact ⟨0, rfl, by omega, HD⟩
  case round =>
    clear HD
    obtain ⟨i, rfl, hi, HD⟩ := hrel
    cases gk with
    | zero =>
      have hn : ¬ ((i : Int) < 4) := by omega
      have HI := Aside0.mk (show i = 4 by omega)
      clear hi
      go_wp2_with fail
      go_ret
      refine ⟨_, rfl, ?_, HD.out.vw.bel⟩
      have := HD.out.own.lower (B' := w.heap.size) (by omega)
      rw [HI.out] at this
      exact this
    | succ gk =>
      have hn : (i : Int) < 4 := by omega
      have hib : 0 ≤ (i : Int) := by omega
      have HI := Aside0.mk (show i + 1 + gk = 4 by omega)
      obtain ⟨hs1, hs2⟩ := dir_at i (by omega)
      obtain ⟨d, hd⟩ := Option.isSome_iff_exists.1 hs1
      obtain ⟨hm, k0, k1⟩ := hs2 d hd
      have x0 := HD.out.dir _ _ k0
      have x1 := HD.out.dir _ _ k1
      have HST := Aside0.mk (dirs_take (horseAdd s a) i d hd)
      have HAL := Aside0.mk (horse_len s a i (by omega))
      have HLA := Aside0.mk (show horseAdd s a d = if emptyZ s (stepN a d.1 d.2) = true then horseL a d else [] from rfl)
      generalize (dirs.take i).flatMap (horseAdd s a) = acc at *
      generalize horseAdd s a d = la at *
      obtain ⟨e1, e2, e3, e4⟩ := dir_small d hm
      obtain ⟨d1, d2⟩ := d
      simp only at x0 x1 HLA e1 e2 e3 e4
      clear hi hs1 hs2 hd hm k0 k1
      have HH0 := Aside0.mk (HsAt.new HD.out d1 d2)
      have hl1 : w.heap.size + 1 < wr.heap.size := HD.out.dlt.2
      go_wp2_with fail
      clear x0 x1 hl1 HD
      generalize wr.alloc (.cells #[.int .i64 d1, .int .i64 d2] 127) = W1 at *
      generalize wr.heap.size = bw at *
      have HH := Aside0.mk HH0.out.drew
      obtain ⟨c0, c1, c2, _⟩ := HH0.out.dr.vw
      have b0 := HH0.out.b0
      have b1 := HH0.out.b1
      clear HH0
      go_region_held3 (fun W => W.cell? ⟨w.heap.size, 0, none⟩ = some (.string s) ∧ W.cell? ⟨w.heap.size, 1, none⟩ = some (.int .i64 (a : Int)) ∧ W.cell? ⟨w.heap.size, 2, none⟩ = some (.int .u8 (x : Int)) ∧ W.cell? ⟨bw, 0, none⟩ = some (.int .i64 d1) ∧ W.cell? ⟨bw, 1, none⟩ = some (.int .i64 d2)) (go_keep)
        (first
          | (go_at_call 181; refine (HS.out _ _ (by omega) (by omega) _).mono ?_; rintro e w5 ⟨rfl, hb⟩; have HHn := Aside0.mk (HH.out.below hb); clear HH hb c0 c1 c2 b0 b1; have HH := HHn; clear HHn; obtain ⟨c0, c1, c2, _⟩ := HH.out.dr.vw; have b0 := HH.out.b0; have b1 := HH.out.b1)
          | (go_at_call 180; refine (HE.out _ _).mono ?_; rintro e w5 ⟨rfl, hb⟩; have HHn := Aside0.mk (HH.out.below hb); clear HH hb c0 c1 c2 b0 b1; have HH := HHn; clear HHn; obtain ⟨c0, c1, c2, _⟩ := HH.out.dr.vw; have b0 := HH.out.b0; have b1 := HH.out.b1))
      all_goals
        generalize emptyZ s (stepN a d1 d2) = bb at *
        cases bb
        · go_wp2_with fail
          go_roundg gk
          case measure => omega
          case rel =>
            refine ⟨i + 1, by go_num, by have := HI.out; omega, ⟨?_⟩⟩
            rw [HST.out, HLA.out, if_neg (by simp), List.append_nil]
            exact HH.out.dr
        · go_wp2_with fail
          have p0 : wrap64 (2 * d1) = 2 * d1 := by unfold wrap64; omega
          have q0 : IntKind.i64.wrap (2 * d1) = 2 * d1 := by rw [IntKind.wrap_i64]; omega
          have p1 : wrap64 (2 * d2) = 2 * d2 := by unfold wrap64; omega
          have q1 : IntKind.i64.wrap (2 * d2) = 2 * d2 := by rw [IntKind.wrap_i64]; omega
          have p2 : wrap64 (2 * d1 + d2) = 2 * d1 + d2 := by unfold wrap64; omega
          have q2 : IntKind.i64.wrap (2 * d1 + d2) = 2 * d1 + d2 := by rw [IntKind.wrap_i64]; omega
          have p3 : wrap64 (2 * d2 + d1) = 2 * d2 + d1 := by unfold wrap64; omega
          have q3 : IntKind.i64.wrap (2 * d2 + d1) = 2 * d2 + d1 := by rw [IntKind.wrap_i64]; omega
          have p4 : wrap64 (2 * d1 - d2) = 2 * d1 - d2 := by unfold wrap64; omega
          have q4 : IntKind.i64.wrap (2 * d1 - d2) = 2 * d1 - d2 := by rw [IntKind.wrap_i64]; omega
          have p5 : wrap64 (2 * d2 - d1) = 2 * d2 - d1 := by unfold wrap64; omega
          have q5 : IntKind.i64.wrap (2 * d2 - d1) = 2 * d2 - d1 := by rw [IntKind.wrap_i64]; omega
          have HHn := Aside0.mk HH.out.drew
          clear HH
          have HH := HHn
          clear HHn
          go_region_held3 (fun W => W.cell? ⟨w.heap.size, 0, none⟩ = some (.string s) ∧ W.cell? ⟨w.heap.size, 1, none⟩ = some (.int .i64 (a : Int)) ∧ W.cell? ⟨w.heap.size, 2, none⟩ = some (.int .u8 (x : Int)) ∧ W.cell? ⟨bw, 0, none⟩ = some (.int .i64 d1) ∧ W.cell? ⟨bw, 1, none⟩ = some (.int .i64 d2)) (go_keep)
            (first
              | (go_at_call 181; refine (HS.out _ _ (by omega) (by omega) _).mono ?_; rintro e w6 ⟨rfl, hb⟩; have HHn := Aside0.mk (HH.out.below hb); clear HH hb c0 c1 c2 b0 b1; have HH := HHn; clear HHn; obtain ⟨c0, c1, c2, _⟩ := HH.out.dr.vw; have b0 := HH.out.b0; have b1 := HH.out.b1)
              | (refine step_app2 _ (by rfl) _ _ (by rfl) (w.heap.size + 1 + 1) _ acc _ _ (by rfl) (by rfl) HH.out.dr.own HAL.out HH.out.dr.dlt.2 ?_; intro gg cap1 w7 hown1 hgrow; obtain ⟨hd7, b0', b1'⟩ := HH.out.appended _ hgrow _ (horseL a (d1, d2)) rfl hown1; have HD7 := Aside0.mk hd7; clear HH hd7 hown1 hgrow c0 c1 c2 b0 b1; obtain ⟨c0, c1, c2, _⟩ := HD7.out.vw))
          all_goals
            go_wp2_with fail
            go_roundg gk
            case measure => omega
            case rel =>
              refine ⟨i + 1, by go_num, by have := HI.out; omega, ⟨?_⟩⟩
              rw [HST.out, HLA.out]
              simp only [if_true]
              exact HD7.out
theorem vchariot_c (s : ByteArray) (hs : s.size = 90) (a x : Nat) (ha : a < 90) (w : World) : Calls Tryz.prog 167 #[vwV s a x] w fun e w' => ∃ v, e = .returned v ∧ OwnZ w' w.heap.size v (dirs.flatMap (lineAdd s a false)) ∧ Below w.heap.size w w' := by
  have HL := Aside0.mk (fun W => lines_c s hs a x ha false W)
  have hu := Tryz.underlying152
  go_enter Tryz.func167, Tryz.ntmps167
  go_wp2_with fail
  refine (HL.out _).mono ?_
  rintro e w1 ⟨v, rfl, h1, hb⟩
  have HR := Aside0.mk (And.intro (h1.lower (B' := w.heap.size) (by simp)) ((below_alloc (Below.refl w.heap.size w) _).trans (hb.mono (by simp))))
  clear h1 hb
  go_wp2_with fail
  go_ret
  exact ⟨_, rfl, HR.out.1, HR.out.2⟩
theorem vcannon_c (s : ByteArray) (hs : s.size = 90) (a x : Nat) (ha : a < 90) (w : World) : Calls Tryz.prog 168 #[vwV s a x] w fun e w' => ∃ v, e = .returned v ∧ OwnZ w' w.heap.size v (dirs.flatMap (lineAdd s a true)) ∧ Below w.heap.size w w' := by
  have HL := Aside0.mk (fun W => lines_c s hs a x ha true W)
  have hu := Tryz.underlying152
  go_enter Tryz.func168, Tryz.ntmps168
  go_wp2_with fail
  refine (HL.out _).mono ?_
  rintro e w1 ⟨v, rfl, h1, hb⟩
  have HR := Aside0.mk (And.intro (h1.lower (B' := w.heap.size) (by simp)) ((below_alloc (Below.refl w.heap.size w) _).trans (hb.mono (by simp))))
  clear h1 hb
  go_wp2_with fail
  go_ret
  exact ⟨_, rfl, HR.out.1, HR.out.2⟩
/-! ### way -/
def wayX (s : ByteArray) (a x : Nat) : List Int :=
  if kindN x = 75 then (kingL a).filter (mayZ x)
  else if kindN x = 65 then (fourL a 1).filter (mayZ x)
  else if kindN x = 66 then ((fourL a 2).filter (mayZ x)).filter (fun y => emptyZ s (halfZ a y))
  else if kindN x = 78 then dirs.flatMap (horseAdd s a)
  else if kindN x = 82 then dirs.flatMap (lineAdd s a false)
  else if kindN x = 67 then dirs.flatMap (lineAdd s a true)
  else if kindN x = 80 then pawnL (sideN x) a
  else []
theorem kind_side : ∀ x : Fin 256, kindN x.1 ≠ 0 → 0 ≤ sideN x.1 := by decide +kernel
theorem kinds8 : ∀ x : Fin 256, kindN x.1 = 75 ∨ kindN x.1 = 65 ∨ kindN x.1 = 66 ∨ kindN x.1 = 78 ∨ kindN x.1 = 82 ∨ kindN x.1 = 67 ∨ kindN x.1 = 80 ∨ kindN x.1 = 0 := by decide +kernel
set_option maxRecDepth 100000 in
set_option maxHeartbeats 2000000 in
theorem way_c (s : ByteArray) (hs : s.size = 90) (a x : Nat) (ha : a < 90) (hx : x < 256) (w : World) : Calls Tryz.prog 147 #[vwV s a x] w fun e w' => ∃ v, e = .returned v ∧ OwnZ w' w.heap.size v (wayX s a x) ∧ Below w.heap.size w w' := by
  have HK := Aside0.mk (fun W => kind_c x hx W)
  have H1 := Aside0.mk (fun W => general_c s a x ha hx W)
  have H2 := Aside0.mk (fun W => vadvisor_c s a x ha hx W)
  have H3 := Aside0.mk (fun W => velephant_c s hs a x ha hx W)
  have H4 := Aside0.mk (fun W => vhorse_c s hs a x ha W)
  have H5 := Aside0.mk (fun W => vchariot_c s hs a x ha W)
  have H6 := Aside0.mk (fun W => vcannon_c s hs a x ha W)
  have H7 := Aside0.mk (fun (h : 0 ≤ sideN x) W => vpawn_c s a x ha hx h W)
  have HSI := Aside0.mk (kind_side ⟨x, hx⟩)
  have hk := kinds8 ⟨x, hx⟩
  unfold wayX
  simp only at hk HSI
  have HB := Aside0.mk (VwAt.new w s a x)
  have hu := Tryz.underlying152
  clear hs ha hx
  generalize kindN x = kd at *
  have hall : ∀ (l : List Int) (f : Nat), (∀ W, Calls Tryz.prog f #[vwV s a x] W fun e w' => ∃ v, e = .returned v ∧ OwnZ w' W.heap.size v l ∧ Below W.heap.size W w') → ∀ W, VwAt w W s a x → Calls Tryz.prog f #[vwV s a x] W fun e w' => ∃ v, e = .returned v ∧ Aside0 (OwnZ w' w.heap.size v l ∧ Below w.heap.size w w') := by
    intro l f h W hV
    refine (h W).mono ?_
    rintro e w' ⟨v, rfl, h1, h2⟩
    exact ⟨v, rfl, ⟨h1.lower hV.bel.size, hV.bel.trans (h2.mono hV.bel.size)⟩⟩
  have HALL := Aside0.mk hall
  clear hall
  rcases hk with rfl | rfl | rfl | rfl | rfl | rfl | rfl | rfl
  all_goals
    simp only [if_true, if_false, reduceCtorEq, Nat.reduceEqDiff]
    go_enter Tryz.func147, Tryz.ntmps147
    go_wp2_with (first | (go_at_call 96; refine (HK.out _).mono ?_; rintro e w1 ⟨rfl, rfl⟩) | (go_at_call 163; refine (HALL.out _ _ H1.out _ HB.out).mono ?_; rintro e w2 ⟨v, rfl, HR⟩) | (go_at_call 164; refine (HALL.out _ _ H2.out _ HB.out).mono ?_; rintro e w2 ⟨v, rfl, HR⟩) | (go_at_call 165; refine (HALL.out _ _ H3.out _ HB.out).mono ?_; rintro e w2 ⟨v, rfl, HR⟩) | (go_at_call 166; refine (HALL.out _ _ H4.out _ HB.out).mono ?_; rintro e w2 ⟨v, rfl, HR⟩) | (go_at_call 167; refine (HALL.out _ _ H5.out _ HB.out).mono ?_; rintro e w2 ⟨v, rfl, HR⟩) | (go_at_call 168; refine (HALL.out _ _ H6.out _ HB.out).mono ?_; rintro e w2 ⟨v, rfl, HR⟩) | (go_at_call 169; refine (HALL.out _ _ (H7.out (HSI.out (by omega))) _ HB.out).mono ?_; rintro e w2 ⟨v, rfl, HR⟩))
    go_ret
    first
    | exact ⟨_, rfl, HR.out.1, HR.out.2⟩
    | exact ⟨_, rfl, own_znil _ _, HB.out.bel⟩
end Go.Proofs.YtafmapadkpjliaaGreatDoor.K

/- Walks: reach.All. -/
namespace Go.Proofs.YtafmapadkpjliaaGreatDoor.K
open Go.RowKit Go.Lib Go.Proofs.YtafmapadkpjliaaGreatDoorW.PrintWords Go.Proofs.YtafmapadkpjliaaGreatDoorW.PrintLast Go.Proofs.YtafmapadkpjliaaGreatDoorW.PrintMore Go.Proofs.YtafmapadkpjliaaGreatDoor.Sp
set_option linter.unusedVariables false
set_option linter.unusedSimpArgs false
attribute [local go_sem] cel_get   -- for this text's walks alone
theorem all_closure (s : ByteArray) (hs : s.size = 90) (pc : Nat) (hp : pc < 256) (y : Int) (B1 B2 : Nat) (W : World) (h1 : W.cell? ⟨B1, 0, none⟩ = some (.string s)) (h2 : W.cell? ⟨B2, 0, none⟩ = some (.int .u8 (pc : Int))) :
    Calls Tryz.prog 148 (#[.int .i64 y] ++ #[.pointer (some ⟨B1, 0, none⟩), .pointer (some ⟨B2, 0, none⟩)]) W fun e W' => e = .returned (.bool (badZ s pc y)) ∧ Below W.heap.size W W' := by
  show Calls Tryz.prog 148 #[.int .i64 y, .pointer (some ⟨B1, 0, none⟩), .pointer (some ⟨B2, 0, none⟩)] W _
  have HI := Aside0.mk (fun W => isq_c y W)
  by_cases h : 0 ≤ y ∧ y < 90
  · have HSA := Aside0.mk (fun W => side_c (cel s y.toNat) (cel_lt s _) W)
    have HSB := Aside0.mk (fun W => side_c pc hp W)
    have HE := Aside0.mk (show badZ s pc y = (sideN (cel s y.toNat) == sideN pc) by unfold badZ; rw [decide_eq_true h]; rfl)
    rw [decide_eq_true h] at HI
    have h0 := h.1
    have h9 : y < (s.size : Int) := by rw [hs]; exact h.2
    generalize sideN pc = sp at *
    generalize sideN (cel s y.toNat) = sy at *
    clear h hs hp
    go_enter Tryz.func148, Tryz.ntmps148
    go_wp2_with fail
    go_quiet (first | (go_at_call 133; exact Calls.quiet_of_same (HI.out _)) | (go_at_call 105; (with_reducible exact Calls.quiet_of_same (HSA.out _))) | (go_at_call 105; (with_reducible exact Calls.quiet_of_same (HSB.out _))))
    go_wp2_with fail
    go_ret
    exact ⟨ret_bool HE.out.symm, pw_below_drewN (Below.refl _ _) _⟩
  · have HE := Aside0.mk (show badZ s pc y = true by unfold badZ; rw [decide_eq_false h]; rfl)
    rw [decide_eq_false h] at HI
    clear h hs hp
    go_enter Tryz.func148, Tryz.ntmps148
    go_wp2_with fail
    go_quiet (first | (go_at_call 133; exact Calls.quiet_of_same (HI.out _)))
    go_wp2_with fail
    go_ret
    exact ⟨ret_bool HE.out.symm, pw_below_drewN (Below.refl _ _) _⟩
/-- Numbers in a row that the call made, from block B on. -/
structure IntsAt (W : World) (B : Nat) (v : Value) (l : List Nat) : Prop where mk ::
  out : ∃ A cap, v = .slice A l.length cap ∧ l.length ≤ cap ∧ (l = [] ∨ ∃ g, A = some ⟨g, 0, none⟩ ∧ B ≤ g ∧ g < W.heap.size ∧ ∀ i (h : i < l.length), W.cell? ⟨g, i, none⟩ = some (.int .i64 (l[i] : Int)))
theorem IntsAt.below {W W' : World} {B : Nat} {v : Value} {l : List Nat} (h : IntsAt W B v l) (hb : Below W.heap.size W W') : IntsAt W' B v l := by
  obtain ⟨A, cap, hv, hc, h⟩ := h.out
  refine ⟨A, cap, hv, hc, ?_⟩
  rcases h with h | ⟨g, hA, hB, hg, hx⟩
  · exact .inl h
  · exact .inr ⟨g, hA, hB, Nat.lt_of_lt_of_le hg hb.size, fun i hi => (hb.cell (p := ⟨g, i, none⟩) hg).trans (hx i hi)⟩
def allS (s : ByteArray) (a : Int) : List Nat := if isBoard s = true ∧ 0 ≤ a ∧ a < 90 then allN (cel s) a.toNat else []
theorem ints_of {W : World} {B : Nat} {v : Value} {l : List Nat} (h : OwnZ W B v (ints l)) : IntsAt W B v l := by
  have hlen : (ints l).length = l.length := by simp [ints]
  obtain ⟨hx, ⟨h0, h1⟩ | ⟨g, cap, cur, h0, hb, hg, hn, hc, hs, ht⟩⟩ := h
  · rw [hlen] at h1
    exact ⟨none, 0, by rw [h0, h1], by omega, .inl (List.length_eq_zero_iff.1 h1)⟩
  · rw [hlen] at h0 hn ht
    refine ⟨_, cap, h0, hn, .inr ⟨g, rfl, hb, blk_lt hg, ?_⟩⟩
    intro i hi
    have e : (nums .i64 (ints l))[i]? = some (.int .i64 (l[i] : Int)) := by
      simp [nums, ints, hi]
    rw [← ht, List.getElem?_take] at e
    split at e
    · simp only [World.cell?, hg]
      simpa using e
    · cases e
theorem way_no (s : ByteArray) (a : Int) (w : World) : Calls Tryz.prog 147 #[.agg #[.string s, .int .i64 a, .int .u8 46]] w fun e w' => e = .returned (.slice none 0 0) ∧ Below w.heap.size w w' := by
  have HK := kind_c 46 (by omega)
  rw [show kindN 46 = 0 from rfl] at HK
  have HK := Aside0.mk HK
  have HB := Aside0.mk (below_alloc (Below.refl w.heap.size w) (.cells #[.string s, .int .i64 a, .int .u8 46] 152))
  have hu := Tryz.underlying152
  go_enter Tryz.func147, Tryz.ntmps147
  go_wp2_with (go_at_call 96; refine (HK.out _).mono ?_; rintro e w1 ⟨rfl, rfl⟩)
  go_ret
  exact ⟨rfl, HB.out⟩
/-- slices.DeleteFunc over All's closure. -/
theorem all_del (s : ByteArray) (hs : s.size = 90) (pc : Nat) (hp : pc < 256) (B1 B2 : Nat) (h12 : B1 < B2) (v : Value) (l : List Int) (W : World) (c1 : W.cell? ⟨B1, 0, none⟩ = some (.string s)) (c2 : W.cell? ⟨B2, 0, none⟩ = some (.int .u8 (pc : Int))) (ho : OwnZ W (B2 + 1) v l) :
    Calls Tryz.prog 136 #[v, .func (.func 148) #[] #[.pointer (some ⟨B1, 0, none⟩), .pointer (some ⟨B2, 0, none⟩)]] W fun e w' => ∃ v', e = .returned v' ∧ OwnZ w' (B2 + 1) v' (l.filter (fun y => !badZ s pc y)) ∧ Below (B2 + 1) W w' :=
  del_Z 148 #[.pointer (some ⟨B1, 0, none⟩), .pointer (some ⟨B2, 0, none⟩)] (badZ s pc) (enters_of Tryz.func148 (by kernel_rfl) rfl) (B2 + 1) v l W (World.block_lt_of_cell? W _ c2) ho (by
    intro b hb _ _ W2 y hy hk
    have key : ∀ g : Nat, g < W.heap.size → g ≠ b → W2.cell? ⟨g, 0, none⟩ = W.cell? ⟨g, 0, none⟩ := fun g hg hne => by
      have := hk.2 g hg hne (by simp)
      unfold World.cell?; simp only [this]
    exact all_closure s hs pc hp y B1 B2 W2 ((key B1 (World.block_lt_of_cell? W _ c1) (by omega)).trans c1) ((key B2 (World.block_lt_of_cell? W _ c2) (by omega)).trans c2))
/-- What All holds of its boxes. -/
structure AlAt (w0 W : World) (s : ByteArray) (pc : Nat) (B2 : Nat) : Prop where
  c1 : W.cell? ⟨w0.heap.size, 0, none⟩ = some (.string s)
  c2 : W.cell? ⟨B2, 0, none⟩ = some (.int .u8 (pc : Int))
  lt : w0.heap.size < B2
  bel : Below w0.heap.size w0 W
theorem AlAt.blt {w0 W : World} {s : ByteArray} {pc B2 : Nat} (h : AlAt w0 W s pc B2) : B2 < W.heap.size := World.block_lt_of_cell? W _ h.c2
theorem AlAt.keep {w0 W W' : World} {s : ByteArray} {pc B2 : Nat} (h : AlAt w0 W s pc B2) {B : Nat} (hB : B2 < B) (hb : Below B W W') : AlAt w0 W' s pc B2 :=
  ⟨(hb.cell (p := ⟨w0.heap.size, 0, none⟩) (Nat.lt_trans h.lt hB)).trans h.c1, (hb.cell (p := ⟨B2, 0, none⟩) hB).trans h.c2, h.lt, h.bel.trans (hb.mono (by have := h.lt; omega))⟩
theorem AlAt.below {w0 W W' : World} {s : ByteArray} {pc B2 : Nat} (h : AlAt w0 W s pc B2) (hb : Below W.heap.size W W') : AlAt w0 W' s pc B2 := h.keep h.blt hb
theorem AlAt.new {w0 W : World} {s : ByteArray} (h1 : W.cell? ⟨w0.heap.size, 0, none⟩ = some (.string s)) (hb : Below w0.heap.size w0 W) (pc : Nat) : AlAt w0 (W.alloc (.cells #[.int .u8 (pc : Int)] 5)) s pc W.heap.size := by
  have hlt := World.block_lt_of_cell? W _ h1
  exact ⟨((below_alloc (Below.refl W.heap.size W) _).cell (p := ⟨w0.heap.size, 0, none⟩) hlt).trans h1, by simp [World.cell?_alloc_at], hlt, below_alloc hb _⟩
set_option maxHeartbeats 2000000 in
theorem all_c (s : ByteArray) (a : Int) (w : World) : Calls Tryz.prog 112 #[.string s, .int .i64 a] w fun e w' => ∃ v, e = .returned v ∧ IntsAt w' w.heap.size v (allS s a) ∧ Below w.heap.size w w' := by
  have HAT := Aside0.mk (fun W => at_c s a W)
  by_cases hin : isBoard s = true ∧ 0 ≤ a ∧ a < 90
  case neg =>
    rw [show atS s a = 46 by unfold atS; rw [if_neg hin]] at HAT
    rw [show allS s a = [] by unfold allS; rw [if_neg hin]]
    have HWY := Aside0.mk (fun W => way_no s a W)
    clear hin
    go_enter Tryz.func112, Tryz.ntmps112
    go_wp2_with fail
    refine (HAT.out _).mono ?_
    rintro e w1 ⟨rfl, hb⟩
    have HB1 := Aside0.mk ((below_alloc (Below.refl w.heap.size w) (.cells #[.string s] 9)).trans (hb.mono (by simp)))
    have hc1 : w1.cell? ⟨w.heap.size, 0, none⟩ = some (.string s) := (hb.cell (p := ⟨w.heap.size, 0, none⟩) (by simp)).trans (by simp [World.cell?_alloc_at])
    clear hb
    have HA1 := Aside0.mk (AlAt.new hc1 HB1.out 46)
    have hlt : w.heap.size < w1.heap.size := World.block_lt_of_cell? _ _ hc1
    have hu := Tryz.underlying152
    go_wp2_with fail
    refine (HWY.out _).mono ?_
    rintro e w2 ⟨rfl, hb⟩
    have HA2 := Aside0.mk (HA1.out.below hb)
    clear hb HA1 HB1 hc1 hlt
    go_wp2_with (go_at_call 136; refine (del_nil none 0 _ _).mono ?_; rintro e w3 ⟨rfl, rfl⟩)
    refine (sort_Z w3.heap.size _ [] w3 (by simp) (own_znil _ _)).mono ?_
    rintro e w4 ⟨rfl, h4, hb⟩
    have HA4 := Aside0.mk (HA2.out.below hb)
    clear hb h4 HA2
    go_wp2_with fail
    refine (compact_Z w4.heap.size _ [] w4 (own_znil _ _)).mono ?_
    rintro e w5 ⟨v, rfl, h5, hb⟩
    have HA5 := Aside0.mk (HA4.out.below hb)
    have HO5 := Aside0.mk (h5.lower HA4.out.bel.size)
    clear hb h5 HA4
    go_wp2_with fail
    go_ret
    exact ⟨_, rfl, ints_of (l := []) HO5.out, HA5.out.bel⟩
  obtain ⟨hbd, h0, h9⟩ := hin
  obtain ⟨n, rfl⟩ : ∃ n : Nat, a = n := ⟨a.toNat, by omega⟩
  have hn : n < 90 := by omega
  have hs := board_size hbd
  rw [show atS s (n : Int) = cel s n by unfold atS; rw [if_pos ⟨hbd, h0, h9⟩]; rfl] at HAT
  rw [show allS s (n : Int) = allN (cel s) n by unfold allS; rw [if_pos ⟨hbd, h0, h9⟩]; rfl]
  have hx := cel_lt s n
  have HWY := Aside0.mk (fun W => way_c s hs n (cel s n) hn hx W)
  rw [show wayX s n (cel s n) = wayZ s n from rfl] at HWY
  have HALL := Aside0.mk (all_sorted s n hn)
  have hlen : (wayZ s n).length ≤ 1000 := by
    by_cases h : 0 ≤ sideN (cel s n)
    · exact (way_ok s n hn h).2.2
    · rw [way_none s n (by omega)]; simp
  have HLEN := Aside0.mk (show ((wayZ s n).filter (fun y => !badZ s (cel s n) y)).length < 4611686018427387904 from Nat.lt_of_le_of_lt (List.length_filter_le _ _) (by omega))
  have HCL := Aside0.mk (fun (y : Int) (B1 B2 : Nat) (W : World) h1 h2 => all_closure s hs (cel s n) hx y B1 B2 W h1 h2)
  generalize wayZ s n = l at *
  generalize cel s n = pc at *
  have HDL := Aside0.mk (fun (B1 B2 : Nat) (h12 : B1 < B2) (v : Value) (W : World) c1 c2 ho => all_del s hs pc hx B1 B2 h12 v l W c1 c2 ho)
  generalize hfl : l.filter (fun y => !badZ s pc y) = fl at *
  clear hbd h0 h9 hn hs hx hlen hfl
  go_enter Tryz.func112, Tryz.ntmps112
  go_wp2_with fail
  refine (HAT.out _).mono ?_
  rintro e w1 ⟨rfl, hb⟩
  have HB1 := Aside0.mk ((below_alloc (Below.refl w.heap.size w) (.cells #[.string s] 9)).trans (hb.mono (by simp)))
  have hc1 : w1.cell? ⟨w.heap.size, 0, none⟩ = some (.string s) := (hb.cell (p := ⟨w.heap.size, 0, none⟩) (by simp)).trans (by simp [World.cell?_alloc_at])
  clear hb
  have HA1 := Aside0.mk (AlAt.new hc1 HB1.out pc)
  have hlt : w.heap.size < w1.heap.size := World.block_lt_of_cell? _ _ hc1
  have hu := Tryz.underlying152
  go_wp2_with fail
  refine (HWY.out _).mono ?_
  rintro e w2 ⟨v2, rfl, h2, hb⟩
  have HA2 := Aside0.mk (HA1.out.below hb)
  have HO2 := Aside0.mk (h2.lower (B' := w1.heap.size + 1) (by simp))
  clear hb h2 HA1 HB1 hc1 hlt
  go_wp2_with fail
  refine (HDL.out _ _ HA2.out.lt _ _ HA2.out.c1 HA2.out.c2 HO2.out).mono ?_
  rintro e w3 ⟨v3, rfl, h3, hb⟩
  have HA3 := Aside0.mk (HA2.out.keep (by omega) hb)
  have HO3 := Aside0.mk h3
  clear hb h3 HA2 HO2
  go_wp2_with fail
  refine (sort_Z _ _ _ _ HLEN.out HO3.out).mono ?_
  rintro e w4 ⟨rfl, h4, hb⟩
  have HA4 := Aside0.mk (HA3.out.keep (by omega) hb)
  have HO4 := Aside0.mk h4
  clear hb h4 HA3 HO3
  go_wp2_with fail
  refine (compact_Z _ _ _ _ HO4.out).mono ?_
  rintro e w5 ⟨v5, rfl, h5, hb⟩
  rw [HALL.out] at h5
  have HA5 := Aside0.mk (HA4.out.keep (by omega) hb)
  have HO5 := Aside0.mk h5
  clear hb h5 HA4 HO4
  go_wp2_with fail
  go_ret
  exact ⟨_, rfl, ints_of (HO5.out.lower (by have := HA5.out.lt; omega)), HA5.out.bel⟩
end Go.Proofs.YtafmapadkpjliaaGreatDoor.K

/- reach.All, walked compactly: what stands behind it. -/
namespace Go.Proofs.YtafmapadkpjliaaGreatDoor.K
end Go.Proofs.YtafmapadkpjliaaGreatDoor.K

/- Walks: pseudo.gather, Moves, Captures. -/
namespace Go.Proofs.YtafmapadkpjliaaGreatDoor.K
open Go.RowKit Go.Lib Go.Proofs.YtafmapadkpjliaaGreatDoorW.PrintWords Go.Proofs.YtafmapadkpjliaaGreatDoor.Sp
set_option linter.unusedVariables false
set_option linter.unusedSimpArgs false
attribute [local go_sem] cel_get   -- for this text's walks alone
abbrev Mv := Nat × Nat
def mvC (m : Mv) : List Value := [.int .i64 (m.1 : Int), .int .i64 (m.2 : Int)]
def flatM (l : List Mv) : List Value := l.flatMap mvC
theorem flatM_len (l : List Mv) : (flatM l).length = l.length * 2 := by
  induction l with
  | nil => rfl
  | cons x r ih => simp only [flatM, List.flatMap_cons, List.length_append, List.length_cons] at *; simp [mvC, ih]; omega
theorem flatM_append (l : List Mv) (x : Mv) : flatM (l ++ [x]) = flatM l ++ mvC x := by simp [flatM]
theorem flatM_get (l : List Mv) (i j : Nat) (hi : i < l.length) (hj : j < 2) : (flatM l)[i * 2 + j]? = (mvC l[i])[j]? := by
  induction l generalizing i with
  | nil => simp at hi
  | cons x r ih =>
    have hl : (mvC x).length = 2 := rfl
    cases i with
    | zero =>
      simp only [flatM, List.flatMap_cons]
      rw [List.getElem?_append_left (by rw [hl]; omega)]
      simp
    | succ i =>
      simp only [flatM, List.flatMap_cons]
      rw [List.getElem?_append_right (by rw [hl]; omega), hl, show (i + 1) * 2 + j - 2 = i * 2 + j by omega]
      exact ih i (by simpa using hi)
/-- A row of moves of the call's own, from block B on. -/
def OwnM (W : World) (B : Nat) (v : Value) (l : List Mv) : Prop := W.ownsRow B 36 2 v l.length (flatM l)
theorem OwnM.below {W W' : World} {B : Nat} {v : Value} {l : List Mv} (h : OwnM W B v l) (hb : Below W.heap.size W W') : OwnM W' B v l := pw_own_below h hb
theorem OwnM.lower {W : World} {B B' : Nat} {v : Value} {l : List Mv} (h : OwnM W B v l) (hb : B' ≤ B) : OwnM W B' v l := by
  obtain ⟨h1, h2 | ⟨g, cap, cur, h2, h3, h4⟩⟩ := h
  · exact ⟨h1, .inl h2⟩
  · exact ⟨h1, .inr ⟨g, cap, cur, h2, Nat.le_trans hb h3, h4⟩⟩
/-- The moves from a square. -/
def fromM (s : ByteArray) (side : Int) (q : Nat → Bool) (a : Nat) : List Mv := if sideN (cel s a) = side then ((allN (cel s) a).filter (fun b => q (cel s b))).map (fun b => (a, b)) else []
def gathM (s : ByteArray) (side : Int) (q : Nat → Bool) (n : Nat) : List Mv := (List.range n).flatMap (fromM s side q)
theorem gathM_succ (s : ByteArray) (side : Int) (q : Nat → Bool) (n : Nat) : gathM s side q (n + 1) = gathM s side q n ++ fromM s side q n := by
  unfold gathM; rw [List.range_succ, List.flatMap_append]; simp
theorem allN_len (c : Nat → Nat) (a : Nat) : (allN c a).length ≤ 90 := by
  unfold allN; exact Nat.le_trans (List.length_filter_le _ _) (by simp)
theorem allN_lt (c : Nat → Nat) (a : Nat) : ∀ b ∈ allN c a, b < 90 := by
  intro b hb; unfold allN at hb; exact List.mem_range.1 (List.mem_filter.1 hb).1
theorem fromM_len (s : ByteArray) (side : Int) (q : Nat → Bool) (a : Nat) : (fromM s side q a).length ≤ 90 := by
  unfold fromM; split
  · rw [List.length_map]; exact Nat.le_trans (List.length_filter_le _ _) (allN_len _ _)
  · simp
theorem gathM_len (s : ByteArray) (side : Int) (q : Nat → Bool) (n : Nat) : (gathM s side q n).length ≤ 90 * n := by
  induction n with
  | zero => simp [gathM]
  | succ n ih => rw [gathM_succ, List.length_append]; have := fromM_len s side q n; omega
/-- The moves of a position to squares where something is so. -/
def gathP (p : Pos) (q : Nat → Bool) : List Mv := if checkP p = 0 then gathM p.cells p.side q 90 else []
/-- The first j of the moves from a square. -/
def partM (s : ByteArray) (q : Nat → Bool) (a j : Nat) : List Mv := (((allN (cel s) a).take j).filter (fun b => q (cel s b))).map (fun b => (a, b))
theorem partM_succ (s : ByteArray) (q : Nat → Bool) (a j : Nat) (h : j < (allN (cel s) a).length) : partM s q a (j + 1) = partM s q a j ++ (if q (cel s (allN (cel s) a)[j]) = true then [(a, (allN (cel s) a)[j])] else []) := by
  unfold partM
  rw [List.take_succ_eq_append_getElem h, List.filter_append, List.map_append]
  congr 1
  split <;> simp_all
theorem partM_len (s : ByteArray) (q : Nat → Bool) (a j : Nat) : (partM s q a j).length ≤ 90 := by
  unfold partM
  rw [List.length_map]
  exact Nat.le_trans (List.length_filter_le _ _) (by rw [List.length_take]; have := allN_len (cel s) a; omega)
theorem info_move : (Tryz.prog.info? 36).map (fun i => (i.zero, i.size, i.bytes)) = some (some (.agg #[.int .i64 0, .int .i64 0]), 2, 16) := by kernel_rfl
/-- What gather's loops keep. -/
structure GathAt (w0 W : World) (p : Pos) (v : Value) (l : List Mv) : Prop where
  c0 : W.cell? ⟨w0.heap.size, 0, none⟩ = some (.string p.cells)
  c1 : W.cell? ⟨w0.heap.size, 1, none⟩ = some (.int .i64 p.side)
  own : OwnM W (w0.heap.size + 1) v l
  bel : Below w0.heap.size w0 W
  lt : w0.heap.size < W.heap.size
theorem GathAt.below {w0 W W' : World} {p : Pos} {v : Value} {l : List Mv} (h : GathAt w0 W p v l) (hb : Below W.heap.size W W') : GathAt w0 W' p v l :=
  ⟨(hb.cell (p := ⟨w0.heap.size, 0, none⟩) h.lt).trans h.c0, (hb.cell (p := ⟨w0.heap.size, 1, none⟩) h.lt).trans h.c1, h.own.below hb, h.bel.trans (hb.mono h.bel.size), Nat.lt_of_lt_of_le h.lt hb.size⟩
/-- Behind an append. -/
theorem GathAt.grown {w0 W W1 : World} {p : Pos} {v v1 : Value} {l l1 : List Mv} (h : GathAt w0 W p v l) (hg : W.grownBy W1 v.ownBlock) (ho : OwnM W1 (w0.heap.size + 1) v1 l1) : GathAt w0 W1 p v1 l1 := by
  have hne : some w0.heap.size ≠ v.ownBlock := fun he => by have := own_base h.own _ he.symm; omega
  exact ⟨(hg.cell_far ⟨w0.heap.size, 0, none⟩ h.lt hne).trans h.c0, (hg.cell_far ⟨w0.heap.size, 1, none⟩ h.lt hne).trans h.c1, ho, h.bel.grown hg (Nat.le_of_lt h.lt) (fun k hk => by have := own_base h.own k hk; omega), Nat.lt_of_lt_of_le h.lt hg.size⟩
theorem below_cell {W w1 : World} (hb : Below W.heap.size W w1) (g o : Nat) (v : Value) (h : W.cell? ⟨g, o, none⟩ = some v) : w1.cell? ⟨g, o, none⟩ = some v :=
  (hb.cell (p := ⟨g, o, none⟩) (World.block_lt_of_cell? W _ h)).trans h
def Hold (P : Prop) : Prop := P
theorem hold {P : Prop} (h : Hold P) : P := h
theorem Hold.go {P : Prop} (h : P) : Hold P := h
theorem news_own (w : World) (B : Obj) : (w.alloc B).heap[w.heap.size]? = some B := by show (w.heap.push B)[w.heap.size]? = _; simp
/-- All's row beside the moves' row. -/
structure AllAt (W : World) (A : Option Addr) (l : List Nat) (s : Value) : Prop where mk ::
  out : l = [] ∨ ∃ g, A = some ⟨g, 0, none⟩ ∧ g < W.heap.size ∧ s.ownBlock ≠ some g ∧ ∀ i (h : i < l.length), W.cell? ⟨g, i, none⟩ = some (.int .i64 (l[i] : Int))
theorem AllAt.at {W : World} {A : Option Addr} {l : List Nat} {s : Value} (h : AllAt W A l s) {j : Nat} (hj : j < l.length) : ∃ g, A = some ⟨g, 0, none⟩ ∧ g < W.heap.size ∧ s.ownBlock ≠ some g ∧ ∀ i (h : i < l.length), W.cell? ⟨g, i, none⟩ = some (.int .i64 (l[i] : Int)) := by
  rcases h.out with h | h
  · subst h; simp at hj
  · exact h
theorem AllAt.below {W W' : World} {A : Option Addr} {l : List Nat} {s : Value} (h : AllAt W A l s) (hb : Below W.heap.size W W') : AllAt W' A l s := by
  rcases h.out with h | ⟨g, hA, h1, h2, h3⟩
  · exact ⟨.inl h⟩
  · exact ⟨.inr ⟨g, hA, Nat.lt_of_lt_of_le h1 hb.size, h2, fun i hi => (hb.cell (p := ⟨g, i, none⟩) h1).trans (h3 i hi)⟩⟩
set_option maxRecDepth 100000 in
set_option maxHeartbeats 4000000 in
theorem gather_c (p : Pos) (g : Nat) (q : Nat → Bool) (hq : ∀ (W : World) (x : Nat), x < 256 → Calls Tryz.prog g #[.int .u8 (x : Int)] W fun e w' => e = .returned (.bool (q x)) ∧ w' = W)
    (eg : ∀ args w, (callFunc g args).run Tryz.prog w = .ok (.enter g args) w) (w : World) :
    Calls Tryz.prog 101 #[posV p, .func (.func g) #[] #[]] w fun e w' => ∃ v, e = .returned v ∧ OwnM w' w.heap.size v (gathP p q) ∧ Below w.heap.size w w' := by
  have HCK := Aside0.mk (fun W => check_c p W)
  have hu := Tryz.underlying23
  by_cases hck : checkP p = 0
  case neg =>
    rw [show gathP p q = [] by unfold gathP; rw [if_neg hck]]
    have h1 : (checkP p == 0) = false := by simpa using hck
    have h2 : (checkP p != 0) = true := by simpa using hck
    clear hck
    generalize checkP p = ck at HCK h1 h2
    go_enter Tryz.func101, Tryz.ntmps101
    go_wp2_with fail
    go_step3
    go_wp2_with fail
    refine (HCK.out _).mono ?_
    rintro e w1 ⟨rfl, hb⟩
    have HB := Aside0.mk ((below_alloc (Below.refl w.heap.size w) _).trans (hb.mono (by simp)))
    clear hb
    go_wp2_with fail
    rw [Exit.noGoto_ret]
    go_ret
    exact ⟨_, rfl, own_nil _ _ _ _, HB.out⟩
  rw [hck] at HCK
  have HGP := Aside0.mk (show gathP p q = gathM p.cells p.side q 90 by unfold gathP; rw [if_pos hck])
  have hbd : isBoard p.cells = true := by
    unfold checkP at hck
    cases ha : argOk p
    · rw [ha] at hck; simp at hck
    · exact (argOk_yes ha).1
  have HBD := Aside0.mk hbd
  have HSZ := Aside0.mk (board_size hbd)
  clear hck hbd
  go_enter Tryz.func101, Tryz.ntmps101
  go_wp2_with fail
  go_step3
  go_wp2_with fail
  refine (HCK.out _).mono ?_
  rintro e w1 ⟨rfl, hb⟩
  have HG0 : Aside0 (GathAt w w1 p (.slice none 0 0) []) := ⟨⟨(hb.cell (p := ⟨w.heap.size, 0, none⟩) (by simp)).trans (by simp), (hb.cell (p := ⟨w.heap.size, 1, none⟩) (by simp)).trans (by simp), own_nil _ _ _ _, (below_alloc (Below.refl w.heap.size w) _).trans (hb.mono (by simp)), by have := hb.size; simp at this; omega⟩⟩
  clear hb HCK
  go_wp2_with fail
  go_step3
  go_wp2_with fail
  obtain ⟨i0, hi0, hx⟩ := Option.map_eq_some_iff.1 info_move
  simp only [Prod.mk.injEq] at hx
  have HZ := Aside0.mk (⟨hi0, hx⟩ : _ ∧ _)
  clear hx hi0
  have HALL := Aside0.mk (fun (a : Nat) (W : World) => all_c p.cells a W)
  have HSID := Aside0.mk (fun (a : Nat) W => side_c (cel p.cells a) W)
  go_loopg [5, 12] 90 (fun gg s5 s12 wr => ∃ i : Nat, s12 = .int .i64 i ∧ i + gg = 90 ∧ Aside0 (GathAt w wr p s5 (gathM p.cells p.side q i)))
  case atStart => exact ⟨0, rfl, by omega, HG0⟩
  case round =>
    obtain ⟨i, rfl, hi, HG⟩ := hrel
    cases gk with
    | zero =>
      have hn : ¬ ((i : Int) < 90) := by omega
      have HI := Aside0.mk (show i = 90 by omega)
      clear hi
      go_wp2_with fail
      go_ret
      refine ⟨_, rfl, ?_, HG.out.bel⟩
      rw [HGP.out, ← HI.out]
      exact HG.out.own.lower (by omega)
    | succ g2 =>
      have hn : ((i : Int) < 90) := by omega
      have HI := Aside0.mk (show i + 1 + g2 = 90 by omega)
      have HC0 := Aside0.mk HG.out.c0
      have HC1 := Aside0.mk HG.out.c1
      have hcs : cel p.cells i < 256 := cel_lt _ _
      have hsz : (i : Int) < p.cells.size := by rw [HSZ.out]; omega
      clear hi
      go_wp2_with fail
      have c0 := HC0.out
      have c1 := HC1.out
      go_quiet (first | (go_at_call 105; exact Calls.quiet_of_same (HSID.out _ hcs _)))
      have HG2 := Aside0.mk (HG.out.below (pw_below_drewN (Below.refl _ _) nq))
      have HG := HG2
      clear HG2 HC0 HC1 c0 c1
      generalize wr.drewN nq = wr at *
      cases hsd : (sideN (cel p.cells i) != p.side)
      case true =>
        have HF := Aside0.mk (show fromM p.cells p.side q i = [] by unfold fromM; rw [if_neg (by simpa using hsd)])
        go_wp2_with fail
        go_roundg g2
        case measure => omega
        case rel => 
          refine ⟨i + 1, rfl, HI.out, Aside0.mk ?_⟩
          rw [gathM_succ, HF.out, List.append_nil]
          exact HG.out
      case false =>
      have HF := Aside0.mk (show fromM p.cells p.side q i = partM p.cells q i (allN (cel p.cells) i).length by unfold fromM partM; rw [if_pos (by simpa using hsd), List.take_length])
      have c0 := HG.out.c0
      go_wp2_with fail
      refine (HALL.out i _).mono ?_
      rintro e w2 ⟨v, rfl, HI2, hb⟩
      have ha : allS p.cells (i : Int) = allN (cel p.cells) i := by unfold allS; rw [if_pos ⟨HBD.out, by omega, by omega⟩]; rfl
      rw [ha] at HI2
      obtain ⟨A, cap, rfl, hcap, hA⟩ := HI2.out
      have HG1 := Aside0.mk (HG.out.below hb)
      have HAL : Aside0 (AllAt w2 A (allN (cel p.cells) i) u5) := by
        rcases hA with hA | ⟨g', rfl, h1, h2, h3⟩
        · exact Aside0.mk ⟨.inl hA⟩
        · exact Aside0.mk ⟨.inr ⟨g', rfl, h2, fun he => by have := (HG.out.own.lt g' he).2; omega, h3⟩⟩
      clear hA HI2 c0 ha
      have HLL := Aside0.mk (allN_lt (cel p.cells) i)
      have HL90 := Aside0.mk (allN_len (cel p.cells) i)
      generalize hl : allN (cel p.cells) i = l at *
      have hm : (l.length : Int) ≤ 90 := by have := HL90.out; omega
      go_wp2_with fail
      go_loopg [28, 5] l.length (fun gg s28 s5 wr => ∃ j : Nat, s28 = .int .i64 j ∧ j + gg = l.length ∧ Aside0 (GathAt w wr p s5 (gathM p.cells p.side q i ++ partM p.cells q i j)) ∧ Aside0 (AllAt wr A l s5))
      case atStart => exact ⟨0, rfl, by omega, Aside0.mk (by rw [show partM p.cells q i 0 = [] by simp [partM], List.append_nil]; exact HG1.out), HAL⟩
      case round =>
      clear HG HG1 HAL
      obtain ⟨j, rfl, hj, HG, HAL⟩ := hrel
      cases gk with
      | zero =>
        have hjn : ¬ ((j : Int) < (l.length : Int)) := by omega
        have HJ := Aside0.mk (show j = l.length by omega)
        clear hj
        go_wp2_with fail
        go_roundg g2
        case measure => omega
        case rel =>
          refine ⟨i + 1, rfl, HI.out, Aside0.mk ?_⟩
          rw [gathM_succ, HF.out, ← HJ.out]
          exact HG.out
      | succ g3 =>
        have hjn : ((j : Int) < (l.length : Int)) := by omega
        have hjl : j < l.length := by omega
        have HJ := Aside0.mk (show j + 1 + g3 = l.length by omega)
        obtain ⟨g', rfl, h1, h2, h3⟩ := HAL.out.at hjl
        have cj := h3 j hjl
        have HXL := Aside0.mk (HLL.out _ (List.getElem_mem hjl))
        have HPS := Aside0.mk (partM_succ p.cells q i j (by rw [hl]; exact hjl))
        simp only [hl] at HPS
        generalize l[j] = x at *
        have c0 := HG.out.c0
        have hcs2 : cel p.cells x < 256 := cel_lt _ _
        have hsz2 : (x : Int) < p.cells.size := by rw [HSZ.out]; have := HXL.out; omega
        clear hj h2 h3
        go_wp2_with fail
        refine (hq _ _ hcs2).mono ?_
        rintro e w3 ⟨rfl, rfl⟩
        cases hqx : q (cel p.cells x)
        case false =>
          have HN := Aside0.mk (show partM p.cells q i (j + 1) = partM p.cells q i j by rw [HPS.out, if_neg (by simp [hqx]), List.append_nil])
          go_wp2_with fail
          go_roundg g3
          case measure => omega
          case rel =>
            refine ⟨j + 1, rfl, HJ.out, Aside0.mk ?_, HAL⟩
            rw [HN.out]
            exact HG.out
        case true =>
          have HN := Aside0.mk (show partM p.cells q i (j + 1) = partM p.cells q i j ++ [(i, x)] by rw [HPS.out, if_pos hqx])
          have HLN := Aside0.mk (show (gathM p.cells p.side q i ++ partM p.cells q i j).length ≤ 90 * i + 90 by rw [List.length_append]; have := gathM_len p.cells p.side q i; have := partM_len p.cells q i j; omega)
          have HGL := Aside0.mk (show gathM p.cells p.side q i ++ partM p.cells q i (j + 1) = gathM p.cells p.side q i ++ partM p.cells q i j ++ [(i, x)] by rw [HN.out, List.append_assoc])
          generalize gathM p.cells p.side q i ++ partM p.cells q i j = L at *
          have HI90 := Aside0.mk (show i < 90 by omega)
          go_wp2_with (first | (at_builtin; refine hold ?_))
          refine Hold.go ?_
          refine wpList_append_lies _ (by rfl) _ _ _ (by rfl) (w.heap.size + 1) 36 i0 _ 2 16 Tryz.underlying29 HZ.out.1 HZ.out.2.1 HZ.out.2.2.1 HZ.out.2.2.2 rfl (by omega) _ L.length (flatM L) (by rfl) (HG.out.own.below (below_alloc (Below.refl _ _) _)) ⟨w3.heap.size, 0, none⟩ 1 1 (mvC (i, x)) (by rfl) (by rfl) (World.news_of_block (cs := #[.int .i64 (i : Int), .int .i64 (x : Int)]) (t := 36) (fr := (0, 0)) (news_own _ _)) (by simp [Value.oneCell', mvC]) (by omega) (by have := HLN.out; have := HI90.out; unfold maxLen; omega) (by have := HLN.out; have := HI90.out; omega) (by have := HG.out.lt; simp; omega) _ rfl ?_
          intro gg cap1 w1 hown1 hgrow hat hlt1
          have HO1 := Aside0.mk hown1
          have HGR := Aside0.mk hgrow
          have HAT := Aside0.mk hat
          clear hown1 hgrow hat
          go_wp2_with fail
          go_roundg g3
          case measure => omega
          case rel =>
            refine ⟨j + 1, rfl, HJ.out, Aside0.mk ?_, Aside0.mk ⟨.inr ?_⟩⟩
            · rw [HGL.out]
              refine (HG.out.below (below_alloc (Below.refl _ _) _)).grown HGR.out ?_
              have ho := HO1.out
              unfold OwnM
              rw [flatM_append, List.length_append]
              exact ho
            · obtain ⟨g2', hg2, k1, k2, k3⟩ := HAL.out.at hjl
              simp only [Option.some.injEq, Addr.mk.injEq, and_true] at hg2
              subst hg2
              have hsz := HGR.out.size
              have hk : g' < (w3.alloc (Obj.cells #[Value.int IntKind.i64 i, Value.int IntKind.i64 x] 36)).heap.size := by simp; omega
              refine ⟨g', rfl, by omega, fun he => ?_, fun y hy => (HGR.out.cell_far ⟨g', y, none⟩ hk (Ne.symm k2)).trans ?_⟩
              · simp only [Value.ownBlock, Option.some.injEq] at he
                rcases HAT.out with h | h
                · rw [h, he] at k2; exact k2 rfl
                · omega
              · exact below_cell (below_alloc (Below.refl _ _) _) _ _ _ (k3 y hy)
end Go.Proofs.YtafmapadkpjliaaGreatDoor.K

/- A position's box. -/
namespace Go.Proofs.YtafmapadkpjliaaGreatDoor.K
open Go.RowKit Go.Lib Go.Proofs.YtafmapadkpjliaaGreatDoorW.PrintWords Go.Proofs.YtafmapadkpjliaaGreatDoor.Sp
set_option linter.unusedVariables false
set_option linter.unusedSimpArgs false
/-- A position's box. -/
structure BoxP (W : World) (b : Nat) (p : Pos) : Prop where
  c0 : W.cell? ⟨b, 0, none⟩ = some (.string p.cells)
  c1 : W.cell? ⟨b, 1, none⟩ = some (.int .i64 p.side)
  c2 : W.cell? ⟨b, 2, none⟩ = some (.int .i64 p.clock)
  c3 : W.cell? ⟨b, 3, none⟩ = some (.int .i64 p.full)
theorem BoxP.below {W W' : World} {b : Nat} {p : Pos} (h : BoxP W b p) (hb : Below W.heap.size W W') : BoxP W' b p := ⟨below_cell hb _ _ _ h.c0, below_cell hb _ _ _ h.c1, below_cell hb _ _ _ h.c2, below_cell hb _ _ _ h.c3⟩
theorem BoxP.drew {W : World} {b : Nat} {p : Pos} (h : BoxP W b p) : BoxP W.drew b p := ⟨h.c0, h.c1, h.c2, h.c3⟩
theorem BoxP.new (w : World) (p : Pos) : BoxP (w.alloc (.cells #[.string p.cells, .int .i64 p.side, .int .i64 p.clock, .int .i64 p.full] 23)) w.heap.size p := by
  constructor <;> simp [World.cell?_alloc_at]
/-- Since an elder world, what lay there lies there still. -/
theorem below_go {w W W' : World} (h : Below w.heap.size w W) (hb : Below W.heap.size W W') : Below w.heap.size w W' := h.trans (hb.mono h.size)
theorem below_new {w W : World} (h : Below w.heap.size w W) (o : Obj) : Below w.heap.size w (W.alloc o) := below_go h (below_alloc (Below.refl _ _) _)
theorem below_drews {w W : World} (h : Below w.heap.size w W) (n : Nat) : Below w.heap.size w (W.drewN n) := pw_below_drewN h n
end Go.Proofs.YtafmapadkpjliaaGreatDoor.K

/- key.Of: some uint64. -/
namespace Go.Proofs.YtafmapadkpjliaaGreatDoor.K
open Go.RowKit Go.Lib Go.Shelf Go.Maps Go.Sort Go.Proofs.YtafmapadkpjliaaGreatDoorW.PrintWords Go.Proofs.YtafmapadkpjliaaGreatDoor.Sp
set_option linter.unusedVariables false
set_option linter.unusedSimpArgs false
attribute [local go_sem] Oper.semAt_some
attribute [local go_sem] cel_get   -- for this text's walks alone
/-- How a bool in a map reads. -/
def boolE (v : Value) : Option (DataW Unit × List MemPlace) :=
  match v with
  | .bool b => some (.lit (.bool b), [])
  | _ => none
theorem boolE_inv {v : Value} {x : DataW Unit × List MemPlace} (h : boolE v = some x) : ∃ b, v = .bool b := by
  unfold boolE at h
  split at h
  · exact ⟨_, rfl⟩
  · cases h
/-- A map of the call's own from ints to bools, of at most so many keys. -/
def MapB (W : World) (mb n : Nat) : Prop := ∃ D : DataW Unit, W.ownsMap Tryz.prog 3 boolE mb n D
theorem MapB.made (w : World) : MapB (w.alloc (.map #[] 0)) w.heap.size 0 := ⟨_, World.ownsMap_made w Tryz.prog 3 boolE⟩
theorem MapB.lt {W : World} {mb n : Nat} (h : MapB W mb n) : mb < W.heap.size := by obtain ⟨D, h⟩ := h; exact h.lt
theorem MapB.kept {W W' : World} {mb n : Nat} {row : Option Nat} (h : MapB W mb n) (hg : W.grownBy W' row) (hne : some mb ≠ row) : MapB W' mb n := by obtain ⟨D, h⟩ := h; exact ⟨D, h.kept hg hne⟩
theorem MapB.below {W W' : World} {mb n : Nat} (h : MapB W mb n) (hb : Below W.heap.size W W') : MapB W' mb n :=
  h.kept (row := none) ⟨hb.os, hb.tape, hb.output, hb.size, fun k hk _ => hb.block k hk⟩ (by simp)
theorem lit_wf {x : Int} (h1 : -9223372036854775808 ≤ x) (h2 : x ≤ 9223372036854775807) : (Lit.int .i64 x).wf = true := by
  simp [Lit.wf, IntKind.min, IntKind.max, IntKind.signed, IntKind.bits]
  omega
theorem MapB.put {W : World} {mb n : Nat} (h : MapB W mb n) (hn : n < 1000000) {x : Int} (h1 : -9223372036854775808 ≤ x) (h2 : x ≤ 9223372036854775807) (b : Bool) :
    ∃ W', (Instr.mapUpdate 112 (.map (some mb)) (.int .i64 x) (.bool b)).run Tryz.prog W = .ok () W' ∧ MapB W' mb (n + 1) ∧ W.grownBy W' (some mb) := by
  obtain ⟨D, h⟩ := h
  obtain ⟨W', e1, e2, e3⟩ := h.update (Maps.int_keyed Tryz.underlying3) Tryz.underlying112 (by unfold maxLen; omega) (key := .int .i64 x) (val := .bool b) (kl := .int .i64 x) (d := .lit (.bool b)) (ps := []) (Maps.keyOf_int_mk Tryz.underlying3 (lit_wf h1 h2)) rfl
  exact ⟨W', e1, ⟨_, e2⟩, e3⟩
theorem MapB.look {W : World} {mb n : Nat} (h : MapB W mb n) {x : Int} (h1 : -9223372036854775808 ≤ x) (h2 : x ≤ 9223372036854775807) :
    ∃ b : Bool, (Instr.lookup 112 (.map (some mb)) (.int .i64 x) false).run Tryz.prog W = .ok (.bool b) W := by
  obtain ⟨D, h⟩ := h
  obtain ⟨v, ps, e1, e2⟩ := h.lookup (Maps.int_keyed Tryz.underlying3) Tryz.underlying112 (z := .bool false) (by kernel_rfl) (zd := .lit (.bool false)) (zp := []) rfl (key := .int .i64 x) (kl := .int .i64 x) (Maps.keyOf_int_mk Tryz.underlying3 (lit_wf h1 h2))
  obtain ⟨b, rfl⟩ := boolE_inv e2
  exact ⟨b, e1⟩
/-- What lies there while the squares are gone over. -/
structure KwAt (w W : World) (p : Pos) (mb wb n : Nat) : Prop where
  box : BoxP W w.heap.size p
  wc : W.cell? ⟨wb, 0, none⟩ = some (.map (some mb))
  mp : MapB W mb n
  bel : Below w.heap.size w W
  ge : w.heap.size < mb
  lt : mb < wb
section
variable {w W W' : World} {p : Pos} {mb wb n : Nat}
theorem KwAt.below (h : KwAt w W p mb wb n) (hb : Below W.heap.size W W') : KwAt w W' p mb wb n :=
  ⟨h.box.below hb, below_cell hb _ _ _ h.wc, h.mp.below hb, below_go h.bel hb, h.ge, h.lt⟩
theorem grown_cell {b o : Nat} {v : Value} (hc : W.cell? ⟨b, o, none⟩ = some v) (hg : W.grownBy W' (some mb)) (hne : b ≠ mb) : W'.cell? ⟨b, o, none⟩ = some v := by
  have hk := hg.block b (World.block_lt_of_cell? W ⟨b, o, none⟩ hc) (by simpa using hne)
  unfold World.cell? at hc ⊢
  simp only [hk]
  exact hc
theorem KwAt.put (h : KwAt w W p mb wb n) (hg : W.grownBy W' (some mb)) (hm : MapB W' mb (n + 1)) : KwAt w W' p mb wb (n + 1) := by
  have h1 := h.ge
  have h2 := h.lt
  exact ⟨⟨grown_cell h.box.c0 hg (by omega), grown_cell h.box.c1 hg (by omega), grown_cell h.box.c2 hg (by omega), grown_cell h.box.c3 hg (by omega)⟩, grown_cell h.wc hg (by omega), hm, h.bel.grown hg h.bel.size (fun k e => by cases e; omega), h1, h2⟩
theorem KwAt.mono (h : KwAt w W p mb wb n) {m : Nat} (hm : n ≤ m) : KwAt w W p mb wb m := ⟨h.box, h.wc, by obtain ⟨D, h⟩ := h.mp; exact ⟨D, h.mono hm⟩, h.bel, h.ge, h.lt⟩
end
theorem put_cell {W : World} {l b o : Nat} {ob : Obj} {v : Value} (hc : W.cell? ⟨b, o, none⟩ = some v) (hne : b ≠ l) : (W.putObj l ob).cell? ⟨b, o, none⟩ = some v := by
  have hk : (W.putObj l ob).heap[b]? = W.heap[b]? := World.putObj_heap_other hne
  unfold World.cell? at hc ⊢
  simp only [hk]
  exact hc
theorem put_free {W : World} {l b o : Nat} {ob : Obj} (hne : b ≠ l) : (W.putObj l ob).frozen? ⟨b, o, none⟩ = W.frozen? ⟨b, o, none⟩ := by
  have hk : (W.putObj l ob).heap[b]? = W.heap[b]? := World.putObj_heap_other hne
  unfold World.frozen?
  simp only [hk]
/-- What lies there between two rounds. -/
structure KrAt (w : World) (mb wb kb l D : Nat) (r : Loop) (W : World) : Prop where
  wc : W.cell? ⟨wb, 0, none⟩ = some (.map (some mb))
  mp : MapB W mb 91
  kc : ∃ k, W.cell? ⟨kb, 0, none⟩ = some (.int .u64 k) ∧ U64 k
  kf : W.frozen? ⟨kb, 0, none⟩ = false
  L : W.heap[l]? = some (.loop r)
  K : W.heap[D]? = some (.deferred (some []))
  bel : Below w.heap.size w W
  ord : w.heap.size < mb ∧ mb < wb ∧ wb < kb ∧ kb < D ∧ D < l
section
variable {w W : World} {mb wb kb l D : Nat} {r : Loop}
theorem KrAt.loop (h : KrAt w mb wb kb l D r W) (r2 : Loop) : KrAt w mb wb kb l D r2 (W.putObj l (.loop r2)) := by
  obtain ⟨o1, o2, o3, o4, o5⟩ := h.ord
  obtain ⟨k, hk1, hk2⟩ := h.kc
  have hg := grownBy_putObj' W l (.loop r2)
  exact ⟨put_cell h.wc (by omega), h.mp.kept hg (by simp; omega), ⟨k, put_cell hk1 (by omega), hk2⟩, (put_free (by omega)).trans h.kf, World.putObj_heap_same (Array.getElem?_eq_some_iff.1 h.L).1, (World.putObj_heap_other (by omega)).trans h.K, h.bel.grown hg h.bel.size (fun k e => by cases e; omega), h.ord⟩
theorem KrAt.setk (h : KrAt w mb wb kb l D r W) {k : Int} (hk : U64 k) : KrAt w mb wb kb l D r (W.setCell ⟨kb, 0, none⟩ (.int .u64 k)) := by
  obtain ⟨o1, o2, o3, o4, o5⟩ := h.ord
  obtain ⟨k0, hk1, hk2⟩ := h.kc
  have hb : Below kb W (W.setCell ⟨kb, 0, none⟩ (.int .u64 k)) := (Below.refl kb W).setCell (p := ⟨kb, 0, none⟩) (Nat.le_refl _) _
  refine ⟨(hb.cell (p := ⟨wb, 0, none⟩) o3).trans h.wc, ?_, ⟨k, World.cell?_setCell_same' _ _ _ (by rw [hk1]; rfl), hk⟩, by rw [World.frozen?_setCell]; exact h.kf, ?_, ?_, h.bel.setCell (p := ⟨kb, 0, none⟩) (by show w.heap.size ≤ kb; omega) _, h.ord⟩
  · obtain ⟨D0, hm⟩ := h.mp
    exact ⟨D0, hm.setCell (by show mb ≠ kb; omega) _⟩
  · exact (Below.heap_setCell W ⟨kb, 0, none⟩ _ l (by show l ≠ kb; omega)).trans h.L
  · exact (Below.heap_setCell W ⟨kb, 0, none⟩ _ D (by show D ≠ kb; omega)).trans h.K
theorem KrAt.begin (h : KrAt w mb wb kb l D r W) (hr : r.state = .ready) : ∃ W2, (Instr.beginRound l).run Tryz.prog W = .ok () W2 ∧ KrAt w mb wb kb l D { r with state := .busy } W2 := ⟨_, run_beginRound h.L hr, h.loop _⟩
theorem KrAt.fin (h : KrAt w mb wb kb l D r W) (jump : Option Code) : ∃ W2, (Instr.endRound l jump).run Tryz.prog W = .ok (.bool jump.isNone) W2 ∧ KrAt w mb wb kb l D { r with state := if jump.isNone then .ready else .done, pending := jump } W2 := ⟨_, run_endRound jump h.L, h.loop _⟩
theorem KrAt.fine (h : KrAt w mb wb kb l D r W) (hr : r.state ≠ .busy) : ∃ W2, (Instr.endLoop l).run Tryz.prog W = .ok r.pending W2 ∧ KrAt w mb wb kb l D { r with state := .exhausted } W2 := ⟨_, run_endLoop h.L hr, h.loop _⟩
end
theorem kw_start {w w1 wm : World} {p : Pos} (hx : BoxP w1 w.heap.size p) (hb : Below w.heap.size w w1) (hg : (w1.alloc (.map #[] 0)).grownBy wm (some w1.heap.size)) (hm : MapB wm w1.heap.size 1) :
    KwAt w (wm.alloc (.cells #[.map (some w1.heap.size)] 112)) p w1.heap.size wm.heap.size 1 := by
  have hlt : w.heap.size < w1.heap.size := World.block_lt_of_cell? w1 ⟨w.heap.size, 0, none⟩ hx.c0
  have hx2 := hx.below (below_alloc (Below.refl w1.heap.size w1) (.map #[] 0))
  have hb2 : Below w.heap.size w (w1.alloc (.map #[] 0)) := below_new hb _
  have hbm : Below w.heap.size w wm := hb2.grown hg hb2.size (fun k e => by cases e; omega)
  have hal := below_alloc (Below.refl wm.heap.size wm) (.cells #[.map (some w1.heap.size)] 112)
  have hxm : BoxP wm w.heap.size p := ⟨grown_cell hx2.c0 hg (by omega), grown_cell hx2.c1 hg (by omega), grown_cell hx2.c2 hg (by omega), grown_cell hx2.c3 hg (by omega)⟩
  exact ⟨hxm.below hal, by simp [World.cell?_alloc_at], hm.below hal, below_new hbm _, hlt, hm.lt⟩
theorem range_own {n : Nat} {g : Operand} {ps : Array Tmp} {assign body : Code} {Q : Exit → Act → World → Prop} {a : Act} {w : World} {gf : Nat} (hg : a.eval g = .func (.func gf) #[] #[])
    (eg : ∀ args w, (callFunc gf args).run Tryz.prog w = .ok (.enter gf args) w) (h1 : 1 ≤ n)
    (h : ∀ fn, CallsIn Fence.wide (n - 1) Tryz.prog gf #[.func (.yield (w.heap.size + 1)) #[] #[]] ((w.alloc (.deferred (some []))).alloc (.loop { state := .ready, pending := none, fn := fn, tmps := a.tmps, params := ps, assign := assign, body := body, defers := w.heap.size }))
      (rangePost Fence.wide n Tryz.prog (w.heap.size + 1) Q { a with defers := [{ target := .collected w.heap.size, args := #[] }] ++ a.defers })) :
    (Code.rangeFunc g ps assign body).wpIn Fence.wide n Tryz.prog Q a w := by
  refine wpIn_rangeFunc ?_
  intro fn hfn
  refine ⟨w.heap.size + 1, [{ target := .collected w.heap.size, args := #[] }], (w.alloc (.deferred (some []))).alloc (.loop { state := .ready, pending := none, fn := fn, tmps := a.tmps, params := ps, assign := assign, body := body, defers := w.heap.size }), { target := .fn (.func gf) #[], args := #[.func (.yield (w.heap.size + 1)) #[] #[]] }, (w.alloc (.deferred (some []))).alloc (.loop { state := .ready, pending := none, fn := fn, tmps := a.tmps, params := ps, assign := assign, body := body, defers := w.heap.size }), gf, #[.func (.yield (w.heap.size + 1)) #[] #[]], (w.alloc (.deferred (some []))).alloc (.loop { state := .ready, pending := none, fn := fn, tmps := a.tmps, params := ps, assign := assign, body := body, defers := w.heap.size }), run_enterLoop_outer _ _ _ _ _, ?_, ?_, ?_, fun _ => h1, h fn⟩
  · simp only [resolve, hg]
    simp [go_sem]
  · intro f' hf'; trivial
  · simp [invoke, go_sem, eg]
theorem kr_start {w wr : World} {p : Pos} {mb wb : Nat} (h : KwAt w wr p mb wb 91) (r : Loop) :
    KrAt w mb wb wr.heap.size (wr.heap.size + 1 + 1) (wr.heap.size + 1) r (((wr.alloc (.cells #[.int .u64 0] 81)).alloc (.deferred (some []))).alloc (.loop r)) := by
  have hwb : wb < wr.heap.size := World.block_lt_of_cell? wr ⟨wb, 0, none⟩ h.wc
  have hal : Below wr.heap.size wr (((wr.alloc (.cells #[.int .u64 0] 81)).alloc (.deferred (some []))).alloc (.loop r)) := below_alloc (below_alloc (below_alloc (Below.refl _ _) _) _) _
  have hc0 : (wr.alloc (.cells #[.int .u64 0] 81)).cell? ⟨wr.heap.size, 0, none⟩ = some (.int .u64 0) := by simp [World.cell?_alloc_at]
  have hal2 : Below (wr.alloc (.cells #[.int .u64 0] 81)).heap.size (wr.alloc (.cells #[.int .u64 0] 81)) (((wr.alloc (.cells #[.int .u64 0] 81)).alloc (.deferred (some []))).alloc (.loop r)) := below_alloc (below_alloc (Below.refl _ _) _) _
  refine ⟨below_cell hal _ _ _ h.wc, h.mp.below hal, ⟨0, below_cell hal2 _ _ _ hc0, by unfold U64; omega⟩, (hal2.frozen (p := ⟨wr.heap.size, 0, none⟩) (World.block_lt_of_cell? _ ⟨wr.heap.size, 0, none⟩ hc0)).trans (by simp [World.frozen?_alloc_at]), ?_, ?_, below_go h.bel hal, ⟨h.ge, h.lt, hwb, by omega, by omega⟩⟩
  · have := World.alloc_heap_new ((wr.alloc (.cells #[.int .u64 0] 81)).alloc (.deferred (some []))) (.loop r)
    simpa using this
  · refine (Below.heap_alloc _ _ _ (by simp)).trans ?_
    have := World.alloc_heap_new (wr.alloc (.cells #[.int .u64 0] 81)) (.deferred (some []))
    simpa using this
set_option maxRecDepth 100000 in
set_option maxHeartbeats 4000000 in
theorem kof_in (p : Pos) (hbd : isBoard p.cells = true) (n : Nat) (hn : 3 ≤ n) (w : World) :
    CallsIn Fence.wide n Tryz.prog 44 #[posV p] w fun e w' => ∃ k : Int, e = .returned (.int .u64 k) ∧ U64 k ∧ Below w.heap.size w w' := by
  have HI := fun W => is_c p.cells W
  simp only [hbd] at HI
  have HI := Aside0.mk HI
  have HSZ := Aside0.mk (board_size hbd)
  have HPL := Aside0.mk (fun (i : Nat) (hi : i < 90) W => kplace_c (cel p.cells i) i (cel_lt _ _) hi W)
  have hu := Tryz.underlying23
  have HB0 := Aside0.mk (BoxP.new w p)
  have HL0 := Aside0.mk (below_alloc (Below.refl w.heap.size w) (.cells #[.string p.cells, .int .i64 p.side, .int .i64 p.clock, .int .i64 p.full] 23))
  have hmm := @run_makeMap Tryz.prog
  have hro : Fence.wide.round = none := rfl
  have h1 : 1 ≤ n := by omega
  refine callsIn_of_wp_marks Tryz.func44 rfl trivial ?_ hro
  simp only [Tryz.ntmps44, List.size_toArray, List.length_cons, List.length_nil, Nat.reduceAdd, Nat.reduceSub, Array.replicate_succ, Array.replicate_zero, List.push_toArray, List.append_toArray, List.nil_append, List.cons_append]
  gi_wp2_with (refine ⟨trivial, ?_⟩; gi_at_call 79; refine (callsIn_wide.2 (HI.out _)).mono ?_; rintro e w1 ⟨rfl, hb⟩; have HB1 := Aside0.mk (And.intro (HB0.out.below hb) (below_go HL0.out hb)); clear hb; obtain ⟨d0, d1, d2, d3⟩ := HB1.out.1.below (below_alloc (Below.refl w1.heap.size w1) (.map #[] 0)); obtain ⟨wm, hrun, hmp, hg⟩ := MapB.put (MapB.made w1) (by omega) (x := 1261) (by omega) (by omega) (p.side == 1); have HKW := Aside0.mk (kw_start HB1.out.1 HB1.out.2 hg hmp); clear hmp hg)
  clear d0 d1 d2 d3 hrun HB1
  generalize (wm.alloc (.cells #[.map (some w1.heap.size)] 112)) = W2 at *
  generalize w1.heap.size = mb at *
  generalize wm.heap.size = wb at *
  gi_loopg [18, 4, 5] 90 (fun gg s18 _ _ wr => ∃ i : Nat, s18 = .int .i64 (i : Int) ∧ i + gg = 90 ∧ Aside0 (KwAt w wr p mb wb (1 + i)))
  case atStart => exact ⟨0, rfl, rfl, HKW⟩
  case round =>
    clear HKW
    obtain ⟨i, rfl, hi, HK⟩ := hrel
    obtain ⟨c0, c1, c2, c3⟩ := HK.out.box
    have hwc := HK.out.wc
    cases gk with
    | zero =>
      have hn : ¬ (i : Int) < 90 := by omega
      have HK91 := Aside0.mk (show KwAt w wr p mb wb 91 by have := HK.out; rwa [show 1 + i = 91 by omega] at this)
      clear hi
      gi_wp2_with (refine ⟨trivial, ?_⟩; gi_at_call 81; refine (callsIn_wide.2 (row_c _)).mono ?_; rintro e w2 ⟨rfl, rfl⟩)
      refine range_own (gf := 116) rfl (enters_of Tryz.func116 (by kernel_rfl) rfl) h1 (fun fn => ?_)
      · rw [World.size_alloc]
        refine (row1_in (n - 1) (by omega) _ (fun _ W => KrAt w mb wb wr.heap.size (wr.heap.size + 1 + 1) (wr.heap.size + 1) _ W) (fun W => ∃ r2 : Loop, r2.state = .done ∧ r2.pending = some (.exit 2) ∧ KrAt w mb wb wr.heap.size (wr.heap.size + 1 + 1) (wr.heap.size + 1) r2 W) ?_ _ (kr_start HK91.out _)).mono ?_
        · intro j x W hj hx hJ
          refine ⟨_, _, _, _, run_yield hJ.L rfl, roundIn_of_wpIn trivial ?_⟩
          obtain ⟨W2, hbr, hJ2⟩ := hJ.begin rfl
          obtain ⟨kv, hkc, hku⟩ := hJ2.kc
          have hkf := hJ2.kf
          have hwc2 := hJ2.wc
          obtain ⟨bb, hlk⟩ := MapB.look hJ2.mp (x := (j : Int)) (by omega) (by omega)
          have HJ2 := Aside0.mk hJ2
          clear hJ hJ2 c0 c1 c2 c3 hwc
          gi_wp2_with ((rw [Oper.semAt_eq _ _ _ (fun c h => by cases h)]; go_simp; try go_bits))
          refine ⟨W2, hbr, ?_⟩
          gi_wp2_with ((rw [Oper.semAt_eq _ _ _ (fun c h => by cases h)]; go_simp; try go_bits))
          all_goals first
            | (have hj2 : j < 1261 := by (rename_i hjj; simp at hjj; omega)
               obtain ⟨W4, he4, h4⟩ := HJ2.out.fin none
               exact ⟨_, W4, he4, .inl ⟨rfl, hj2, h4⟩⟩)
            | (have hj2 : j < 1261 := by (rename_i hjj; simp at hjj; omega)
               obtain ⟨W4, he4, h4⟩ := (HJ2.out.setk (xor_u64 kv x)).fin none
               exact ⟨_, W4, he4, .inl ⟨rfl, hj2, h4⟩⟩)
            | (obtain ⟨W4, he4, h4⟩ := HJ2.out.fin (some (.exit 2))
               exact ⟨_, W4, he4, .inr ⟨rfl, _, rfl, rfl, h4⟩⟩)
            | (obtain ⟨W4, he4, h4⟩ := (HJ2.out.setk (xor_u64 kv x)).fin (some (.exit 2))
               exact ⟨_, W4, he4, .inr ⟨rfl, _, rfl, rfl, h4⟩⟩)
        · rintro e W2 ⟨⟨v, rfl⟩, r2, hr1, hr2, hX⟩
          obtain ⟨W3, hend, hX3⟩ := hX.fine (by rw [hr1]; simp)
          rw [hr2] at hend
          obtain ⟨kv, hkc, hku⟩ := hX3.kc
          have HX3 := Aside0.mk hX3
          clear hX hX3 c0 c1 c2 c3 hwc
          refine ⟨some (.exit 2), W3, hend, ?_⟩
          gi_wp2
          refine ⟨by simp, .inl ⟨_, _, rfl, run_takeDeferred HX3.out.K, ?_⟩⟩
          refine ⟨_, results_tmp rfl _ _ _, kv, rfl, hku, ?_⟩
          have hlt : w.heap.size ≤ wr.heap.size + 1 := by have := HX3.out.ord; omega
          exact HX3.out.bel.grown (grownBy_putObj' _ (wr.heap.size + 1) (.deferred none)) HX3.out.bel.size (fun k e => by cases e; omega)
    | succ g =>
      have hn : (i : Int) < 90 := by omega
      have hi9 : i < 90 := by omega
      have hsz : i < p.cells.size := by rw [HSZ.out]; exact hi9
      have hsz2 : (i : Int) < (p.cells.size : Int) := by omega
      have HPi := Aside0.mk (HPL.out i hi9)
      have HIN := Aside0.mk (show i + 1 + g = 90 by omega)
      generalize hx : cel p.cells i = x at *
      clear hi hi9
      gi_wp2_with (refine ⟨trivial, ?_⟩; gi_at_call 80; refine (callsIn_wide.2 (HPi.out _)).mono ?_; rintro e w2 ⟨z, rfl, hz, rfl⟩; have hzz : (z : Int) ≤ 1260 := (by omega); obtain ⟨wm, hrun, hmp, hg⟩ := MapB.put HK.out.mp (by have := HIN.out; omega) (x := (z : Int)) (by omega) (by omega) true; have HP := Aside0.mk (HK.out.put hg hmp); clear hmp hg)
      all_goals
        gi_roundg g
        case measure => omega
        case rel => first | exact ⟨i + 1, by go_num, HIN.out, ⟨HP.out⟩⟩ | exact ⟨i + 1, by go_num, HIN.out, ⟨HK.out.mono (by omega)⟩⟩
theorem kof_c (p : Pos) (hbd : isBoard p.cells = true) (w : World) :
    Calls Tryz.prog 44 #[posV p] w fun e w' => ∃ k : Int, e = .returned (.int .u64 k) ∧ U64 k ∧ Below w.heap.size w w' :=
  callsIn_wide.1 (kof_in p hbd 3 (Nat.le_refl _) w)
end Go.Proofs.YtafmapadkpjliaaGreatDoor.K

/- A region that draws its order, of reads and of calls that make memory: one walk serves every order. -/
namespace Go.Proofs.YtafmapadkpjliaaGreatDoor.K
open Go.RowKit Go.Lib Go.Proofs.YtafmapadkpjliaaGreatDoorW.PrintWords Go.Proofs.YtafmapadkpjliaaGreatDoor.Sp
set_option linter.unusedVariables false
set_option linter.unusedSimpArgs false
/-- A world since which nothing old was turned. -/
structure BelowOf (w : World) where
  W : World
  bel : Below w.heap.size w W
instance belowOf_one (w : World) : Nonempty (BelowOf w) := ⟨⟨w, Below.refl _ _⟩⟩
theorem wp_region_below {id : Nat} {Q : Exit → Act → World → Prop} {a : Act} {w : World} {l : List Oper} (hB : Region.lexB .any l.toArray = true)
    (h : wpQuiet Tryz.prog l.toArray (fun w' => ∃ p : BelowOf w, w' = p.W) (fun a' => ∀ w', (∃ p : BelowOf w, w' = p.W) → Q .normal a' w') l a) : (Code.region id l.toArray true).wp Tryz.prog Q a w :=
  wp_region_quiet (C := fun w' => ∃ p : BelowOf w, w' = p.W) (by kernel_rfl) hB ⟨⟨_, pw_below_drewN (Below.refl _ _) 1⟩, rfl⟩ (by simpa using h)
section
variable {f : FuncId} {args : Array Value} {w : World} {p : BelowOf w} {v : Value}
theorem BelowOf.calls (h : Calls Tryz.prog f args p.W fun e w' => e = .returned v ∧ Below p.W.heap.size p.W w') : Calls Tryz.prog f args p.W fun e w'' => e = .returned v ∧ ∃ q : BelowOf w, w'' = q.W :=
  h.mono fun _ _ ⟨he, hb⟩ => ⟨he, ⟨_, below_then p.bel p.bel.size hb⟩, rfl⟩
theorem BelowOf.same (h : Calls Tryz.prog f args p.W fun e w' => e = .returned v ∧ w' = p.W) : Calls Tryz.prog f args p.W fun e w'' => e = .returned v ∧ ∃ q : BelowOf w, w'' = q.W :=
  h.mono fun _ _ ⟨he, hw⟩ => ⟨he, p, hw⟩
theorem BelowOf.cell (p : BelowOf w) {a : Addr} {u : Value} (h : w.cell? a = some u) : p.W.cell? a = some u := pw_cell_below p.bel h
end
end Go.Proofs.YtafmapadkpjliaaGreatDoor.K

/- Walks: pseudo.Moves. -/
namespace Go.Proofs.YtafmapadkpjliaaGreatDoor.K
open Go.RowKit Go.Lib Go.Proofs.YtafmapadkpjliaaGreatDoorW.PrintWords Go.Proofs.YtafmapadkpjliaaGreatDoor.Sp
set_option linter.unusedVariables false
set_option linter.unusedSimpArgs false
theorem moves1_c (W : World) (x : Nat) (hx : x < 256) : Calls Tryz.prog 102 #[.int .u8 (x : Int)] W fun e w' => e = .returned (.bool ((fun _ => true) x)) ∧ w' = W := by
  go_enter Tryz.func102, Tryz.ntmps102
  go_wp2_with fail
  go_ret
  exact ⟨rfl, rfl⟩
set_option maxRecDepth 100000 in
set_option maxHeartbeats 1000000 in
theorem moves_c (p : Pos) (w : World) : Calls Tryz.prog 63 #[posV p] w fun e w' => ∃ v, e = .returned v ∧ OwnM w' w.heap.size v (gathP p (fun _ => true)) ∧ Below w.heap.size w w' := by
  have HG := Aside0.mk (fun W => gather_c p 102 (fun _ => true) moves1_c (fun _ _ => by rfl) W)
  have hu := Tryz.underlying23
  go_enter Tryz.func63, Tryz.ntmps63
  go_wp2_with fail
  refine (HG.out _).mono ?_
  rintro e w1 ⟨v, rfl, h1, h2⟩
  have HR : Aside0 (OwnM w1 w.heap.size v (gathP p (fun _ => true)) ∧ Below w.heap.size w w1) := ⟨h1.lower (by simp), (below_alloc (Below.refl w.heap.size w) _).trans (h2.mono (by simp))⟩
  clear h1 h2
  go_wp2_with fail
  go_ret
  exact ⟨v, rfl, HR.out.1, HR.out.2⟩
end Go.Proofs.YtafmapadkpjliaaGreatDoor.K

/- A row of moves, read. -/
namespace Go.Proofs.YtafmapadkpjliaaGreatDoor.K
open Go.RowKit Go.Lib Go.Proofs.YtafmapadkpjliaaGreatDoorW.PrintWords Go.Proofs.YtafmapadkpjliaaGreatDoor.Sp
set_option linter.unusedVariables false
set_option linter.unusedSimpArgs false
/-- Moves in a row that the call made, from block B on, as they are read. -/
structure MvAt (W : World) (B : Nat) (v : Value) (l : List Mv) : Prop where mk ::
  out : ∃ A cap, v = .slice A l.length cap ∧ (l = [] ∨ ∃ g, A = some ⟨g, 0, none⟩ ∧ B ≤ g ∧ g < W.heap.size ∧ ∀ i (h : i < l.length), W.cell? ⟨g, i * 2, none⟩ = some (.int .i64 (l[i].1 : Int)) ∧ W.cell? ⟨g, i * 2 + 1, none⟩ = some (.int .i64 (l[i].2 : Int)))
theorem MvAt.below {W W' : World} {B : Nat} {v : Value} {l : List Mv} (h : MvAt W B v l) (hb : Below W.heap.size W W') : MvAt W' B v l := by
  obtain ⟨A, cap, hv, h⟩ := h.out
  refine ⟨A, cap, hv, ?_⟩
  rcases h with h | ⟨g, hA, hB, hg, hx⟩
  · exact .inl h
  · exact .inr ⟨g, hA, hB, Nat.lt_of_lt_of_le hg hb.size, fun i hi => ⟨(hb.cell (p := ⟨g, i * 2, none⟩) hg).trans (hx i hi).1, (hb.cell (p := ⟨g, i * 2 + 1, none⟩) hg).trans (hx i hi).2⟩⟩
theorem OwnM.reads {W : World} {B : Nat} {v : Value} {l : List Mv} (ho : OwnM W B v l) : MvAt W B v l := by
  obtain ⟨hx, ⟨h0, h1⟩ | ⟨g, cap, cur, h0, hb, hg, hn, hc, hs, ht⟩⟩ := ho
  · exact ⟨none, 0, by rw [h0, h1], .inl (List.length_eq_zero_iff.1 h1)⟩
  · refine ⟨_, cap, h0, .inr ⟨g, rfl, hb, ?_, ?_⟩⟩
    · rcases Nat.lt_or_ge g W.heap.size with h | h
      · exact h
      · rw [Array.getElem?_eq_none h] at hg; cases hg
    · intro i hi
      have key : ∀ j, j < 2 → W.cell? ⟨g, i * 2 + j, none⟩ = (mvC l[i])[j]? := by
        intro j hj
        have e := flatM_get l i j hi hj
        rw [← ht, List.getElem?_take] at e
        split at e
        · simp only [World.cell?, hg]
          simpa using e
        · match j, hj with
          | 0, _ | 1, _ => cases e
      have k0 := key 0 (by omega)
      have k1 := key 1 (by omega)
      exact ⟨k0, k1⟩
theorem MvAt.at {W : World} {B : Nat} {v : Value} {l : List Mv} (h : MvAt W B v l) (hl : l ≠ []) : ∃ g cap, v = .slice (some ⟨g, 0, none⟩) l.length cap ∧ B ≤ g ∧ g < W.heap.size ∧ ∀ i (h : i < l.length), W.cell? ⟨g, i * 2, none⟩ = some (.int .i64 (l[i].1 : Int)) ∧ W.cell? ⟨g, i * 2 + 1, none⟩ = some (.int .i64 (l[i].2 : Int)) := by
  obtain ⟨A, cap, hv, h1 | ⟨g, rfl, h2⟩⟩ := h.out
  · exact absurd h1 hl
  · exact ⟨g, cap, hv, h2⟩
theorem MvAt.form {W : World} {B : Nat} {v : Value} {l : List Mv} (h : MvAt W B v l) : ∃ A cap, v = .slice A l.length cap := by
  obtain ⟨A, cap, hv, _⟩ := h.out
  exact ⟨A, cap, hv⟩
end Go.Proofs.YtafmapadkpjliaaGreatDoor.K

/- slices.IndexFunc, ContainsFunc and DeleteFunc at []api.Move, over a function value that may make memory. -/
namespace Go.Proofs.YtafmapadkpjliaaGreatDoor.K
open Go.RowKit Go.Lib Go.Proofs.YtafmapadkpjliaaGreatDoorW.PrintWords Go.Proofs.YtafmapadkpjliaaGreatDoorW.PrintLast Go.Proofs.YtafmapadkpjliaaGreatDoorW.PrintMore
set_option linter.unusedVariables false
set_option linter.unusedSimpArgs false
/-- A move's value. -/
abbrev mvV (m : Mv) : Value := .agg #[.int .i64 (m.1 : Int), .int .i64 (m.2 : Int)]
/-- What a function value owes that is asked of a list's moves: at each, in every later world but for the row b. -/
def GivesM (g : Nat) (lb : Array Value) (p : Mv → Bool) (xs : List Mv) (b : Nat) (w : World) : Prop :=
  ∀ (W : World) (x : Mv), x ∈ xs → KeepBut w W b none → Calls Tryz.prog g (#[mvV x] ++ lb) W fun e W' => e = .returned (.bool (p x)) ∧ Below W.heap.size W W'
/-- A row of moves at block b: its cells may be read and written. -/
theorem OwnM.cellsAt {W : World} {B b n cap : Nat} {xs : List Mv} (h : W.ownsRow B 36 2 (.slice (some ⟨b, 0, none⟩) n cap) n (flatM xs)) (i : Nat) (hi : i < xs.length) :
    W.cell? ⟨b, i * 2, none⟩ = some (.int .i64 ((xs.getD i (0, 0)).1 : Int)) ∧ W.cell? ⟨b, i * 2 + 1, none⟩ = some (.int .i64 ((xs.getD i (0, 0)).2 : Int)) := by
  have hg : xs.getD i (0, 0) = xs[i] := by simp [List.getD_eq_getElem?_getD, hi]
  rw [hg]
  constructor
  · have hc := h.cells (g := b) rfl (i * 2) (.int .i64 (xs[i].1 : Int)) (by have := flatM_get xs i 0 hi (by omega); rw [Nat.add_zero] at this; rw [this]; rfl)
    rwa [add_plain] at hc
  · have hc := h.cells (g := b) rfl (i * 2 + 1) (.int .i64 (xs[i].2 : Int)) (by rw [flatM_get xs i 1 hi (by omega)]; rfl)
    rwa [add_plain] at hc
theorem OwnM.free {W : World} {B b n cap : Nat} {xs : List Value} (h : W.ownsRow B 36 2 (.slice (some ⟨b, 0, none⟩) n cap) n xs) (i : Nat) : W.frozen? ⟨b, i, none⟩ = false := by
  rcases h.2 with ⟨h', _⟩ | ⟨g', cap', cur, h', _, hh, _⟩
  · cases h'
  · have : b = g' := by injection h' with h'; injection h' with h'; injection h' with h'
    subst this
    simp [World.frozen?, hh]
theorem flatM_set (xs : List Mv) (i : Nat) (m : Mv) : ((flatM xs).set (i * 2) (.int .i64 (m.1 : Int))).set (i * 2 + 1) (.int .i64 (m.2 : Int)) = flatM (xs.set i m) := by
  induction xs generalizing i with
  | nil => simp [flatM]
  | cons x r ih =>
    cases i with
    | zero => simp [flatM, mvC]
    | succ i =>
      have := ih i
      simp only [flatM, List.flatMap_cons, List.set_cons_succ] at this ⊢
      rw [← this]
      rw [show (i + 1) * 2 = i * 2 + 1 + 1 by omega]
      simp [mvC]
theorem OwnM.put {W : World} {B b n cap : Nat} {xs : List Mv} (h : W.ownsRow B 36 2 (.slice (some ⟨b, 0, none⟩) n cap) n (flatM xs)) (i : Nat) (m : Mv) :
    ((W.setCell ⟨b, i * 2, none⟩ (.int .i64 (m.1 : Int))).setCell ⟨b, i * 2 + 1, none⟩ (.int .i64 (m.2 : Int))).ownsRow B 36 2 (.slice (some ⟨b, 0, none⟩) n cap) n (flatM (xs.set i m)) := by
  have h1 := (h.stored (i * 2) (.int .i64 (m.1 : Int))).1
  have h2 := (h1.stored (i * 2 + 1) (.int .i64 (m.2 : Int))).1
  rwa [flatM_set] at h2
set_option maxHeartbeats 1000000 in
/-- slices.IndexFunc: no element is so. -/
theorem idxM_none (g : Nat) (lb : Array Value) (p : Mv → Bool) (eg : ∀ args w, (callFunc g args).run Tryz.prog w = .ok (.enter g args) w) (base b cap : Nat) (xs : List Mv) (w : World)
    (HO : w.ownsRow base 36 2 (.slice (some ⟨b, 0, none⟩) xs.length cap) xs.length (flatM xs)) (hg : GivesM g lb p xs b w) (hlen : xs.length ≤ 1000000)
    (hn : ∀ x ∈ xs, p x = false) :
    Calls Tryz.prog 67 #[.slice (some ⟨b, 0, none⟩) xs.length cap, .func (.func g) #[] lb] w fun e w' => e = .returned (.int .i64 (-1)) ∧ Below w.heap.size w w' := by
  have HG := Aside0.mk hg
  have HN := Aside0.mk hn
  have HX := Aside0.mk HO
  have hu2 := Tryz.underlying36
  clear hg hn HO
  go_enter Tryz.func67, Tryz.ntmps67
  go_wp2
  go_loopg [5, 8] xs.length (fun gg _ s8 wr => ∃ kk : Nat, kk ≤ xs.length ∧ xs.length - kk ≤ gg ∧ s8 = .int .i64 kk ∧ Below w.heap.size w wr)
  case atStart => exact ⟨0, Nat.zero_le _, by omega, rfl, Below.refl _ _⟩
  case round =>
    obtain ⟨kk, hkk, hgg, rfl, hB0⟩ := hrel
    have hB := Aside0.mk hB0
    clear hB0
    by_cases hlt : kk < xs.length
    · have hltz : (kk : Int) < (xs.length : Int) := by omega
      have ho := pw_own_below HX.out hB.out
      obtain ⟨hc0, hc1⟩ := OwnM.cellsAt ho kk hlt
      clear ho
      have hm : xs.getD kk (0, 0) ∈ xs := by simp [List.getD_eq_getElem?_getD, hlt]
      have hcall := HG.out wr (xs.getD kk (0, 0)) hm (KeepBut.of_below hB.out b none)
      rw [HN.out _ hm] at hcall
      generalize xs.getD kk (0, 0) = y at hc0 hc1 hcall
      obtain ⟨ya, yb⟩ := y
      simp only at hc0 hc1
      clear hm
      go_wp2_with (go_at_fn g; refine hcall.mono ?_; rintro e w' ⟨rfl, hb2⟩)
      go_roundg (xs.length - (kk + 1))
      case measure => omega
      case rel => exact ⟨kk + 1, by omega, by omega, by go_num, below_then hB.out hB.out.size hb2⟩
    · have hltz : ¬ (kk : Int) < (xs.length : Int) := by omega
      go_wp2
      go_ret
      exact ⟨rfl, hB.out⟩
set_option maxHeartbeats 1000000 in
/-- .. or one is, the first at k. -/
theorem idxM_hit (g : Nat) (lb : Array Value) (p : Mv → Bool) (eg : ∀ args w, (callFunc g args).run Tryz.prog w = .ok (.enter g args) w) (base b cap : Nat) (xs : List Mv) (w : World)
    (HO : w.ownsRow base 36 2 (.slice (some ⟨b, 0, none⟩) xs.length cap) xs.length (flatM xs)) (hg : GivesM g lb p xs b w) (hlen : xs.length ≤ 1000000)
    (k : Nat) (hk : k < xs.length) (hit : p (xs.getD k (0, 0)) = true) (hn : ∀ j, j < k → p (xs.getD j (0, 0)) = false) :
    Calls Tryz.prog 67 #[.slice (some ⟨b, 0, none⟩) xs.length cap, .func (.func g) #[] lb] w fun e w' => e = .returned (.int .i64 k) ∧ Below w.heap.size w w' := by
  have HG := Aside0.mk hg
  have HN := Aside0.mk hn
  have HX := Aside0.mk HO
  have HI := Aside0.mk hit
  have hu2 := Tryz.underlying36
  clear hg hn HO hit
  go_enter Tryz.func67, Tryz.ntmps67
  go_wp2
  go_loopg [5, 8] xs.length (fun gg _ s8 wr => ∃ kk : Nat, kk ≤ k ∧ xs.length - kk ≤ gg ∧ s8 = .int .i64 kk ∧ Below w.heap.size w wr)
  case atStart => exact ⟨0, Nat.zero_le _, by omega, rfl, Below.refl _ _⟩
  case round =>
    obtain ⟨kk, hkk, hgg, rfl, hB0⟩ := hrel
    have hB := Aside0.mk hB0
    clear hB0
    have hlt : kk < xs.length := by omega
    have hltz : (kk : Int) < (xs.length : Int) := by omega
    have ho := pw_own_below HX.out hB.out
    obtain ⟨hc0, hc1⟩ := OwnM.cellsAt ho kk hlt
    clear ho
    have hm : xs.getD kk (0, 0) ∈ xs := by simp [List.getD_eq_getElem?_getD, hlt]
    have hcall := HG.out wr (xs.getD kk (0, 0)) hm (KeepBut.of_below hB.out b none)
    clear hm hlt
    by_cases hkz : kk = k
    · subst hkz
      rw [HI.out] at hcall
      generalize xs.getD kk (0, 0) = y at hc0 hc1 hcall
      obtain ⟨ya, yb⟩ := y
      simp only at hc0 hc1
      go_wp2_with (go_at_fn g; refine hcall.mono ?_; rintro e w' ⟨rfl, hb2⟩)
      go_ret
      exact ⟨rfl, below_then hB.out hB.out.size hb2⟩
    · have hkl : kk + 1 ≤ k := by omega
      rw [HN.out kk (by omega)] at hcall
      generalize xs.getD kk (0, 0) = y at hc0 hc1 hcall
      obtain ⟨ya, yb⟩ := y
      simp only at hc0 hc1
      clear hkz
      go_wp2_with (go_at_fn g; refine hcall.mono ?_; rintro e w' ⟨rfl, hb2⟩)
      go_roundg (xs.length - (kk + 1))
      case measure => omega
      case rel => exact ⟨kk + 1, by omega, by omega, by go_num, below_then hB.out hB.out.size hb2⟩
/-- Zeros behind a row's beginning leave the beginning. -/
theorem ownM_zeros (base b cap i : Nat) (xs : List Mv) (hx : xs.length = i) : ∀ (zs : List Value) (o : Nat) (W : World), i * 2 ≤ o → W.ownsRow base 36 2 (.slice (some ⟨b, 0, none⟩) i cap) i (flatM xs) →
    (W.setCells b o zs).ownsRow base 36 2 (.slice (some ⟨b, 0, none⟩) i cap) i (flatM xs) ∧ KeepBut W (W.setCells b o zs) b none ∧ ∀ (B0 : Nat) (w0 : World), B0 ≤ b → Below B0 w0 W → Below B0 w0 (W.setCells b o zs)
  | [], o, W, _, h => ⟨h, KeepBut.refl _ _ _, fun _ _ _ h => h⟩
  | z :: zs, o, W, ho, h => by
    have h1 := (h.stored o z).1
    rw [List.set_eq_of_length_le (by rw [flatM_len]; omega)] at h1
    obtain ⟨a, k, c⟩ := ownM_zeros base b cap i xs hx zs (o + 1) _ (by omega) h1
    exact ⟨a, ((KeepBut.refl W b none).set_ o _).trans k (.inl rfl), fun B0 w0 hb hB => c B0 w0 hb (hB.setCell (p := ⟨b, o, none⟩) hb _)⟩
theorem flatM_take (l : List Mv) (i : Nat) : (flatM l).take (i * 2) = flatM (l.take i) := by
  induction l generalizing i with
  | nil => simp [flatM]
  | cons x r ih =>
    cases i with
    | zero => simp [flatM]
    | succ i =>
      have := ih i
      simp only [flatM, List.flatMap_cons, List.take_succ_cons] at this ⊢
      rw [← this, show (i + 1) * 2 = i * 2 + 1 + 1 by omega]
      simp [mvC]
theorem ownM_take {W : World} {base b cap n : Nat} {xs : List Mv} (h : W.ownsRow base 36 2 (.slice (some ⟨b, 0, none⟩) n cap) n (flatM xs)) (i : Nat) (hi : i ≤ n) :
    W.ownsRow base 36 2 (.slice (some ⟨b, 0, none⟩) i cap) i (flatM (xs.take i)) := by
  obtain ⟨hl, h⟩ := h
  have hxl : xs.length = n := by rw [flatM_len] at hl; omega
  refine ⟨by rw [flatM_len, List.length_take]; congr 1; omega, ?_⟩
  rcases h with ⟨h, _⟩ | ⟨g, c, cur, h1, h2, h3, h4, h5, h6, h7⟩
  · cases h
  · injection h1 with a1 a2 a3
    injection a1 with a1
    injection a1 with a1
    subst a1 a3
    refine .inr ⟨b, cap, cur, rfl, h2, h3, by omega, h5, h6, ?_⟩
    rw [← flatM_take, ← h7, List.take_take]
    congr 1
    omega
/-- clear, of moves. -/
theorem clearM {w : World} (ty : TypeId) (b o n c : Nat) (hn : 0 < n) (hc : ∀ j, j < n * 2 → (w.cell? ⟨b, o + j, none⟩).isSome = true) (hf : ∀ j, j < n * 2 → w.frozen? ⟨b, o + j, none⟩ = false) :
    (Builtin.clear_ #[29] ty #[.slice (some ⟨b, o, none⟩) n c]).run Tryz.prog w = .ok (.tuple #[]) (w.setCells b o (List.replicate (n * 2) (.int .i64 0))) := by
  have hzc : (Builtin.zeroCells (Value.agg #[.int .i64 0, .int .i64 0]).cells n).toList = List.replicate (n * 2) (.int .i64 0) := by
    have e : (Value.agg #[.int .i64 0, .int .i64 0]).cells = #[.int .i64 0, .int .i64 0] := by rfl
    rw [e]
    apply List.ext_getElem
    · simp [Builtin.zeroCells]
    · intro i h1 h2
      have h3 : i % 2 = 0 ∨ i % 2 = 1 := by omega
      rcases h3 with h3 | h3 <;> simp [Builtin.zeroCells, h3]
  have hst := run_storeCells_cells (P := Tryz.prog) b o (List.replicate (n * 2) (.int .i64 0)) 0 w (by simpa using hc) (by simpa using hf) (by intro v hv'; rw [List.eq_of_mem_replicate hv']; rfl)
  simp only [Nat.add_zero] at hst
  have hv : ∀ w, (zeroValue 36).run Tryz.prog w = .ok (.agg #[.int .i64 0, .int .i64 0]) w := Tryz.zeroValue36
  obtain ⟨m, rfl⟩ : ∃ m, n = m + 1 := ⟨n - 1, by omega⟩
  simp [Builtin.clear_, run_underlying Tryz.underlying29, hv, hzc, hst]
set_option maxHeartbeats 2000000 in
/-- slices.DeleteFunc: what is left lies at the row's beginning. -/
theorem delM_calls (g : Nat) (lb : Array Value) (p : Mv → Bool) (eg : ∀ args w, (callFunc g args).run Tryz.prog w = .ok (.enter g args) w) (base b cap : Nat) (xs : List Mv) (B0 : Nat) (w : World)
    (HO : w.ownsRow base 36 2 (.slice (some ⟨b, 0, none⟩) xs.length cap) xs.length (flatM xs)) (hg : GivesM g lb p xs b w) (hlen : xs.length ≤ 1000000) (hcap : xs.length ≤ cap)
    (hb : B0 ≤ b) (hz : B0 ≤ w.heap.size) :
    Calls Tryz.prog 38 #[.slice (some ⟨b, 0, none⟩) xs.length cap, .func (.func g) #[] lb] w fun e w' => e = .returned (.slice (some ⟨b, 0, none⟩) (xs.filter fun x => !p x).length cap) ∧
      w'.ownsRow base 36 2 (.slice (some ⟨b, 0, none⟩) (xs.filter fun x => !p x).length cap) (xs.filter fun x => !p x).length (flatM (xs.filter fun x => !p x)) ∧ KeepBut w w' b none ∧ Below B0 w w' := by
  have HB := Aside0.mk (Below.refl B0 w)
  have HZ0 := Aside0.mk hz
  have HX := Aside0.mk HO
  have hu2 := Tryz.underlying36
  rcases Sp.first_hit p (0, 0) xs with hn | ⟨k, hk, hit, hn⟩
  · have hI := idxM_none g lb p eg base b cap xs w HO hg hlen hn
    have hf : (xs.filter fun x => !p x) = xs := by rw [List.filter_eq_self]; intro x hx; simp [hn x hx]
    rw [hf]
    clear hg hn HO hz hf
    go_enter Tryz.func38, Tryz.ntmps38
    go_wp2_with (go_at_call 67; refine hI.mono ?_; rintro e w1 ⟨rfl, hb1⟩)
    go_ret
    exact ⟨rfl, pw_own_below HX.out hb1, KeepBut.of_below hb1 b none, below_then HB.out (Nat.le_trans HZ0.out HB.out.size) hb1⟩
  · have hI := idxM_hit g lb p eg base b cap xs w HO hg hlen k hk hit hn
    have hS := Aside0.mk (Sp.DelInv.start p xs k (0, 0) hk hit hn)
    have HG := Aside0.mk hg
    have hk1 : ((k : Int) == -1) = false := beq_eq_false_iff_ne.2 (by omega)
    clear hg hn HO hz hit
    go_enter Tryz.func38, Tryz.ntmps38
    go_wp2_with (go_at_call 67; refine hI.mono ?_; rintro e w1 ⟨rfl, hb1⟩)
    go_loopg [5, 6, 7] xs.length (fun gg s5 s6 _ wr => ∃ (i j : Nat) (cur : List Mv), s5 = .int .i64 i ∧ s6 = .int .i64 j ∧ xs.length - j ≤ gg ∧ Aside0 (Sp.DelInv p xs cur i j) ∧ Aside0 (wr.ownsRow base 36 2 (.slice (some ⟨b, 0, none⟩) xs.length cap) xs.length (flatM cur)) ∧ Aside0 (KeepBut w wr b none) ∧ Aside0 (Below B0 w wr))
    case atStart => exact ⟨k, k + 1, xs, rfl, by go_num, by omega, hS, ⟨pw_own_below HX.out hb1⟩, ⟨KeepBut.of_below hb1 b none⟩, ⟨below_then HB.out (Nat.le_trans HZ0.out HB.out.size) hb1⟩⟩
    case round =>
      obtain ⟨i, j, cur, rfl, rfl, hgg, hD, hO, hK, hBw⟩ := hrel
      have hij := hD.out.lt
      have hjl := hD.out.le
      have hcl := Lib.hid hD.out.len
      by_cases hlt : j < xs.length
      · have hltz : (j : Int) < (xs.length : Int) := by omega
        obtain ⟨hj0, hj1⟩ := OwnM.cellsAt hO.out j (by rw [hcl.out]; exact hlt)
        obtain ⟨hi0, hi1⟩ := OwnM.cellsAt hO.out i (by rw [hcl.out]; omega)
        rw [hD.out.get (0, 0)] at hj0 hj1
        have hm : xs.getD j (0, 0) ∈ xs := by simp [List.getD_eq_getElem?_getD, hlt]
        have hcall := HG.out (wr.alloc (.cells #[.int .i64 ((xs.getD j (0, 0)).1 : Int), .int .i64 ((xs.getD j (0, 0)).2 : Int)] 36)) (xs.getD j (0, 0)) hm (keep_then_below hK.out (below_alloc (Below.refl _ _) _))
        clear hm
        obtain ⟨y, HY⟩ : ∃ y, Hid (xs.getD j (0, 0) = y) := ⟨_, rfl⟩
        rw [HY.out] at hj0 hj1 hcall
        obtain ⟨ya, yb⟩ := y
        generalize cur.getD i (0, 0) = old at hi0 hi1
        obtain ⟨oa, ob⟩ := old
        simp only at hi0 hi1 hj0 hj1 hcall
        have hafter : ∀ w2, Below (wr.alloc (.cells #[.int .i64 (ya : Int), .int .i64 (yb : Int)] 36)).heap.size (wr.alloc (.cells #[.int .i64 (ya : Int), .int .i64 (yb : Int)] 36)) w2 → Below wr.heap.size wr w2 ∧ w2.cell? ⟨wr.heap.size, 0, none⟩ = some (.int .i64 (ya : Int)) ∧ w2.cell? ⟨wr.heap.size, 1, none⟩ = some (.int .i64 (yb : Int)) ∧ w2.cell? ⟨b, i * 2, none⟩ = some (.int .i64 (oa : Int)) ∧ w2.cell? ⟨b, i * 2 + 1, none⟩ = some (.int .i64 (ob : Int)) ∧ ∀ k, w2.frozen? ⟨b, k, none⟩ = false := fun w2 h2 => by
          have h3 : Below wr.heap.size wr w2 := (below_alloc (Below.refl wr.heap.size wr) _).trans (h2.mono (by simp))
          exact ⟨h3, (h2.cell (p := ⟨wr.heap.size, 0, none⟩) (by simp)).trans (by simp [World.cell?_alloc_at]), (h2.cell (p := ⟨wr.heap.size, 1, none⟩) (by simp)).trans (by simp [World.cell?_alloc_at]), pw_cell_below h3 hi0, pw_cell_below h3 hi1, OwnM.free (pw_own_below hO.out h3)⟩
        have HA := Aside0.mk hafter
        clear hafter hi0 hi1
        cases hq : p (ya, yb) with
        | false =>
          rw [hq] at hcall
          have HQ := Lib.hid hq
          clear hq
          go_wp2_with (go_at_fn g; refine hcall.mono ?_; rintro e w2 ⟨rfl, hb2⟩; obtain ⟨hb3, hy0, hy1, hc2, hd2, hf2⟩ := HA.out w2 hb2)
          go_roundg (xs.length - (j + 1))
          case measure => omega
          case rel =>
            have hO2 := pw_own_below hO.out hb3
            have hs := OwnM.put hO2 i (ya, yb)
            exact ⟨i + 1, j + 1, cur.set i (ya, yb), by go_num, by go_num, by omega, ⟨HY.out ▸ hD.out.keep hlt (0, 0) (by rw [HY.out]; exact HQ.out)⟩, ⟨hs⟩, ⟨((keep_then_below hK.out hb3).set_ (i * 2) _).set_ (i * 2 + 1) _⟩, ⟨((below_then hBw.out (Nat.le_trans HZ0.out hBw.out.size) hb3).setCell (p := ⟨b, i * 2, none⟩) hb _).setCell (p := ⟨b, i * 2 + 1, none⟩) hb _⟩⟩
        | true =>
          rw [hq] at hcall
          have HQ := Lib.hid hq
          clear hq
          go_wp2_with (go_at_fn g; refine hcall.mono ?_; rintro e w2 ⟨rfl, hb2⟩; obtain ⟨hb3, hy0, hy1, hc2, hd2, hf2⟩ := HA.out w2 hb2)
          go_roundg (xs.length - (j + 1))
          case measure => omega
          case rel => exact ⟨i, j + 1, cur, rfl, by go_num, by omega, ⟨hD.out.skip hlt (0, 0) (by rw [HY.out]; exact HQ.out)⟩, ⟨pw_own_below hO.out hb3⟩, ⟨keep_then_below hK.out hb3⟩, ⟨below_then hBw.out (Nat.le_trans HZ0.out hBw.out.size) hb3⟩⟩
      · obtain rfl : j = xs.length := by omega
        have hltz : ¬ (xs.length : Int) < (xs.length : Int) := by omega
        have hpt : wr.ownsRow base 36 2 (.slice (some ⟨b, 0, none⟩) i cap) i (flatM (cur.take i)) := ownM_take hO.out i (by omega)
        have hlt2 : (cur.take i).length = i := by rw [List.length_take, hcl.out]; omega
        have HZ := Aside0.mk (ownM_zeros base b cap i (cur.take i) hlt2 (List.replicate ((xs.length - i) * 2) (.int .i64 0)) (i * 2) wr (Nat.le_refl _) hpt)
        clear hpt hlt2
        have hcl2 : ∀ ty, (Builtin.clear_ #[29] ty #[.slice (some ⟨b, i * 2, none⟩) (xs.length - i) (cap - i)]).run Tryz.prog wr = .ok (.tuple #[]) (wr.setCells b (i * 2) (List.replicate ((xs.length - i) * 2) (.int .i64 0))) :=
          fun ty => clearM ty b (i * 2) (xs.length - i) (cap - i) (by omega)
            (fun t ht => by
              have ha : (i * 2 + t) / 2 < cur.length := by rw [hcl.out]; omega
              obtain ⟨h0, h1⟩ := OwnM.cellsAt hO.out ((i * 2 + t) / 2) ha
              have h3 : i * 2 + t = (i * 2 + t) / 2 * 2 ∨ i * 2 + t = (i * 2 + t) / 2 * 2 + 1 := by omega
              rcases h3 with h3 | h3
              · rw [h3, h0]; rfl
              · rw [h3, h1]; rfl)
            (fun t ht => OwnM.free hO.out _)
        go_wp2
        go_ret
        obtain ⟨z1, z2, z3⟩ := HZ.out
        have e1 := hD.out.done
        have e2 := hD.out.count
        rw [e1] at z1
        exact ⟨by rw [e2]; rfl, by rw [e2]; exact z1, hK.out.trans z2 (.inl rfl), z3 B0 w hb hBw.out⟩
set_option maxHeartbeats 1000000 in
theorem idxM_nil (a : Option Addr) (c : Nat) (fv : Value) (w : World) :
    Calls Tryz.prog 67 #[.slice a 0 c, fv] w fun e w' => e = .returned (.int .i64 (-1)) ∧ w' = w := by
  go_enter Tryz.func67, Tryz.ntmps67
  go_wp2
  go_loopg [8] 0 (fun gg s8 wr => s8 = .int .i64 0 ∧ wr = w)
  case atStart => exact ⟨rfl, rfl⟩
  case round =>
    obtain ⟨rfl, rfl⟩ := hrel
    go_wp2
    go_ret
    exact ⟨rfl, rfl⟩
set_option maxHeartbeats 1000000 in
theorem delM_nil (a : Option Addr) (c : Nat) (fv : Value) (w : World) :
    Calls Tryz.prog 38 #[.slice a 0 c, fv] w fun e w' => e = .returned (.slice a 0 c) ∧ w' = w := by
  have hI := idxM_nil a c fv w
  go_enter Tryz.func38, Tryz.ntmps38
  go_wp2_with (go_at_call 67; refine hI.mono ?_; rintro e w1 ⟨rfl, rfl⟩)
  go_ret
  exact ⟨rfl, rfl⟩
/-- slices.DeleteFunc in these words. -/
theorem del_M (g : Nat) (lb : Array Value) (p : Mv → Bool) (eg : ∀ args w, (callFunc g args).run Tryz.prog w = .ok (.enter g args) w) (B : Nat) (v : Value) (xs : List Mv) (w : World) (hz : B ≤ w.heap.size)
    (ho : OwnM w B v xs) (hlen : xs.length ≤ 1000000) (hg : ∀ b, B ≤ b → b < w.heap.size → v.ownBlock = some b → GivesM g lb p xs b w) :
    Calls Tryz.prog 38 #[v, .func (.func g) #[] lb] w fun e w' => ∃ v' : Value, e = .returned v' ∧ OwnM w' B v' (xs.filter fun x => !p x) ∧ Below B w w' := by
  have ho' := ho
  obtain ⟨hl, ⟨rfl, h0⟩ | ⟨b, cap, cur, hv, hb, hh, hnc, hcm, hcs, hct⟩⟩ := ho
  · obtain rfl : xs = [] := List.length_eq_zero_iff.mp h0
    exact (delM_nil none 0 _ w).mono fun e w' ⟨he, hw⟩ => ⟨_, he, hw ▸ ho', hw ▸ Below.refl _ _⟩
  · subst hv
    refine (delM_calls g lb p eg B b cap xs B w ho' (hg b hb (blk_lt hh) rfl) hlen hnc hb hz).mono ?_
    rintro e w' ⟨he, h1, _, h3⟩
    exact ⟨_, he, h1, h3⟩
/-- slices.IndexFunc in these words: where the first is, or -1. -/
theorem idx_M (g : Nat) (lb : Array Value) (p : Mv → Bool) (eg : ∀ args w, (callFunc g args).run Tryz.prog w = .ok (.enter g args) w) (B : Nat) (v : Value) (xs : List Mv) (w : World)
    (ho : OwnM w B v xs) (hlen : xs.length ≤ 1000000) (hg : ∀ b, B ≤ b → b < w.heap.size → v.ownBlock = some b → GivesM g lb p xs b w) :
    Calls Tryz.prog 67 #[v, .func (.func g) #[] lb] w fun e w' => ∃ k : Int, e = .returned (.int .i64 k) ∧ Below w.heap.size w w' ∧ ((k = -1 ∧ ∀ x ∈ xs, p x = false) ∨ (0 ≤ k ∧ k < xs.length ∧ p (xs.getD k.toNat (0, 0)) = true ∧ ∀ j, j < k.toNat → p (xs.getD j (0, 0)) = false)) := by
  have ho' := ho
  obtain ⟨hl, ⟨rfl, h0⟩ | ⟨b, cap, cur, hv, hb, hh, hnc, hcm, hcs, hct⟩⟩ := ho
  · obtain rfl : xs = [] := List.length_eq_zero_iff.mp h0
    exact (idxM_nil none 0 _ w).mono fun e w' ⟨he, hw⟩ => ⟨_, he, hw ▸ Below.refl _ _, .inl ⟨rfl, by simp⟩⟩
  · subst hv
    rcases Sp.first_hit p (0, 0) xs with hn | ⟨k, hk, hit, hn⟩
    · exact (idxM_none g lb p eg B b cap xs w ho' (hg b hb (blk_lt hh) rfl) hlen hn).mono fun e w' ⟨he, h1⟩ => ⟨_, he, h1, .inl ⟨rfl, hn⟩⟩
    · exact (idxM_hit g lb p eg B b cap xs w ho' (hg b hb (blk_lt hh) rfl) hlen k hk hit hn).mono fun e w' ⟨he, h1⟩ => ⟨_, he, h1, .inr ⟨by omega, by omega, by simpa using hit, by simpa using hn⟩⟩
end Go.Proofs.YtafmapadkpjliaaGreatDoor.K

/- Plain facts of the moves of a position; two rows of moves (the same as in C12, for seats without PseudoCaptures). -/
namespace Go.Proofs.YtafmapadkpjliaaGreatDoor.K
open Go.RowKit Go.Lib Go.Proofs.YtafmapadkpjliaaGreatDoorW.PrintWords Go.Proofs.YtafmapadkpjliaaGreatDoor.Sp
set_option linter.unusedVariables false
set_option linter.unusedSimpArgs false
attribute [local go_sem] cel_get   -- for this text's walks alone
theorem checkP_board {p : Pos} (h : checkP p = 0) : argOk p = true := by
  unfold checkP at h
  cases ha : argOk p
  · rw [ha] at h; simp at h
  · rfl
theorem gath_cap (p : Pos) : gathP p (fun x => x != 46) = (gathP p (fun _ => true)).filter (fun m => cel p.cells m.2 != 46) := by
  unfold gathP
  split
  · unfold gathM
    rw [List.filter_flatMap]
    congr 1
    funext a
    unfold fromM
    split
    · simp [List.filter_map, List.filter_filter, Function.comp_def]
    · rfl
  · rfl
theorem gath_mem {p : Pos} {q : Nat → Bool} {m : Mv} (h : m ∈ gathP p q) : checkP p = 0 ∧ m.1 < 90 ∧ m.2 < 90 ∧ sideN (cel p.cells m.1) = p.side ∧ fastN (cel p.cells) m.1 m.2 = true ∧ q (cel p.cells m.2) = true := by
  unfold gathP at h
  split at h
  · rename_i hc
    unfold gathM at h
    obtain ⟨a, ha, hm⟩ := List.mem_flatMap.1 h
    unfold fromM at hm
    split at hm
    · rename_i hs
      obtain ⟨b, hb, rfl⟩ := List.mem_map.1 hm
      obtain ⟨hb1, hb2⟩ := List.mem_filter.1 hb
      have hb3 : b ∈ (List.range 90).filter (fun b => fastN (cel p.cells) a b) := hb1
      exact ⟨hc, List.mem_range.1 ha, allN_lt _ _ b hb1, hs, (List.mem_filter.1 hb3).2, hb2⟩
    · simp at hm
  · simp at h
theorem gath_len (p : Pos) (q : Nat → Bool) : (gathP p q).length ≤ 8100 := by
  unfold gathP
  split
  · exact gathM_len _ _ _ _
  · simp
theorem take_filter {α : Type} (l : List α) (f : α → Bool) (i : Nat) (h : i < l.length) : ((l.take (i + 1)).filter f) = (l.take i).filter f ++ (if f l[i] = true then [l[i]] else []) := by
  rw [List.take_succ_eq_append_getElem h, List.filter_append]
  congr 1
  split <;> simp_all
theorem filter_at {α : Type} (l : List α) (f : α → Bool) (i : Nat) (h : i < l.length) (hf : f l[i] = true) : (l.filter f)[((l.take i).filter f).length]? = some l[i] := by
  have e : l = l.take i ++ l[i] :: l.drop (i + 1) := by rw [← List.drop_eq_getElem_cons h, List.take_append_drop]
  have e2 : l.filter f = (l.take i).filter f ++ l[i] :: (l.drop (i + 1)).filter f := by
    conv => lhs; rw [e]
    rw [List.filter_append, List.filter_cons_of_pos hf]
  rw [e2]
  simp
/-- Two rows of moves beside a position's box. -/
structure TwoAt (w0 W : World) (p : Pos) (v1 v2 : Value) (l k : List Mv) : Prop where
  box : BoxP W w0.heap.size p
  m1 : MvAt W w0.heap.size v1 l
  m2 : MvAt W w0.heap.size v2 k
  bel : Below w0.heap.size w0 W
theorem TwoAt.below {w0 W W' : World} {p : Pos} {v1 v2 : Value} {l k : List Mv} (h : TwoAt w0 W p v1 v2 l k) (hb : Below W.heap.size W W') : TwoAt w0 W' p v1 v2 l k :=
  ⟨h.box.below hb, h.m1.below hb, h.m2.below hb, below_go h.bel hb⟩
theorem MvAt.lower {W : World} {B B' : Nat} {v : Value} {l : List Mv} (h : MvAt W B v l) (hb : B' ≤ B) : MvAt W B' v l := by
  obtain ⟨A, cap, hv, h⟩ := h.out
  refine ⟨A, cap, hv, ?_⟩
  rcases h with h | ⟨g, hA, hB, h⟩
  · exact .inl h
  · exact .inr ⟨g, hA, Nat.le_trans hb hB, h⟩
end Go.Proofs.YtafmapadkpjliaaGreatDoor.K
