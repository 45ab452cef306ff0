/- Walks and plain laws that several statements lean on, joined: no statement of the seat is proved here. -/
import Derived.Test.YtdkghbbjillboaaGreatDoorB9
import Derived.Test.YtdkghbbjillboaaGreatDoorB2
import Derived.Test.YtdkghbbjillboaaGreatDoorB7
import Derived.Test.YtdkghbbjillboaaGreatDoorB8
import Derived.Test.YtdkghbbjillboaaGreatDoorB5
import Derived.Test.YtdkghbbjillboaaGreatDoorB6

/- Walks of value: Of, Moved. -/
namespace Go.Proofs.YtdkghbbjillboaaGreatDoor.K
open Go.RowKit Go.Lib Go.Proofs.YtdkghbbjillboaaGreatDoorW.PrintWords Go.Proofs.YtdkghbbjillboaaGreatDoor.Sp
set_option linter.unusedVariables false
set_option linter.unusedSimpArgs false
attribute [local go_sem] cel_get   -- for this text's walks alone
/-- A side's own, as far as one has looked. -/
def partV (s : ByteArray) (a : Int) (i : Nat) : Int := sumV (fun n => if sideN (cel s n) = a then pieceV (cel s n) n else 0) i
theorem partV_le (s : ByteArray) (a : Int) {i : Nat} (hi : i ≤ 90) : -27000 ≤ partV s a i ∧ partV s a i ≤ 27000 := by
  have := sumV_le (f := fun n => if sideN (cel s n) = a then pieceV (cel s n) n else 0) (b := 300) (n := i) (fun j hj => by
    have := pieceV_le (cel s j) (n := j) (by omega)
    show -300 ≤ (if sideN (cel s j) = a then pieceV (cel s j) j else 0) ∧ _
    split <;> omega)
  unfold partV
  omega
theorem sumV_sub (f g : Nat → Int) (n : Nat) : sumV f n - sumV g n = sumV (fun i => f i - g i) n := by
  induction n with
  | zero => rfl
  | succ n ih => show sumV f n + f n - (sumV g n + g n) = sumV (fun i => f i - g i) n + (f n - g n); omega
theorem valS_parts {s : ByteArray} {a : Int} (ha : a = 0 ∨ a = 1) : valS s a = partV s a 90 - partV s (1 - a) 90 := by
  unfold valS partV
  rw [sumV_sub]
  refine sumV_congr (fun i _ => ?_)
  unfold ownV
  rcases side_opts (cel s i) with h | h | h
  · rw [if_neg (by omega), if_neg (by omega), if_neg (by omega), pieceV_none (by omega)]; rfl
  · rcases ha with rfl | rfl
    · rw [if_pos h, if_pos h, if_neg (by omega)]; omega
    · rw [if_neg (by omega), if_neg (by omega), if_pos (by omega)]; omega
  · rcases ha with rfl | rfl
    · rw [if_neg (by omega), if_neg (by omega), if_pos (by omega)]; omega
    · rw [if_pos h, if_pos h, if_neg (by omega)]; omega
theorem partV_next (s : ByteArray) (a : Int) (i : Nat) : partV s a (i + 1) = partV s a i + (if sideN (cel s i) = a then pieceV (cel s i) i else 0) := rfl
/-- The two sums, while they are gathered. -/
structure OvAt (w0 W : World) (B b : Nat) (p : Pos) (x y : Int) : Prop where
  box : BoxP W B p
  a0 : W.cell? ⟨b, 0, none⟩ = some (.int .i64 x)
  a1 : W.cell? ⟨b, 1, none⟩ = some (.int .i64 y)
  f0 : W.frozen? ⟨b, 0, none⟩ = false
  f1 : W.frozen? ⟨b, 1, none⟩ = false
  bel : Below w0.heap.size w0 W
  ge : w0.heap.size ≤ b
  ne : B ≠ b
section
variable {w0 W W' : World} {B b : Nat} {p : Pos} {x y : Int}
theorem OvAt.below (h : OvAt w0 W B b p x y) (hb : Below W.heap.size W W') : OvAt w0 W' B b p x y :=
  ⟨h.box.below hb, pw_cell_below hb h.a0, pw_cell_below hb h.a1, (hb.frozen (p := ⟨b, 0, none⟩) (World.block_lt_of_cell? W ⟨b, 0, none⟩ h.a0)).trans h.f0, (hb.frozen (p := ⟨b, 1, none⟩) (World.block_lt_of_cell? W ⟨b, 1, none⟩ h.a1)).trans h.f1, below_go h.bel hb, h.ge, h.ne⟩
theorem OvAt.drew (h : OvAt w0 W B b p x y) : OvAt w0 W.drew B b p x y := h.below (pw_below_drewN (Below.refl _ _) 1)
theorem OvAt.put0 (h : OvAt w0 W B b p x y) (z : Int) : OvAt w0 (W.setCell ⟨b, 0, none⟩ (.int .i64 z)) B b p z y := by
  refine ⟨⟨?_, ?_, ?_, ?_⟩, ?_, ?_, ?_, ?_, h.bel.setCell (p := ⟨b, 0, none⟩) h.ge _, h.ge, h.ne⟩
  · exact (World.cell?_setCell_far _ _ _ _ (show b ≠ B from Ne.symm h.ne)).trans h.box.c0
  · exact (World.cell?_setCell_far _ _ _ _ (show b ≠ B from Ne.symm h.ne)).trans h.box.c1
  · exact (World.cell?_setCell_far _ _ _ _ (show b ≠ B from Ne.symm h.ne)).trans h.box.c2
  · exact (World.cell?_setCell_far _ _ _ _ (show b ≠ B from Ne.symm h.ne)).trans h.box.c3
  · exact World.cell?_setCell_same' _ _ _ (by rw [h.a0]; rfl)
  · exact (World.cell?_setCell_other _ _ _ _ (by simp)).trans h.a1
  · rw [World.frozen?_setCell]; exact h.f0
  · rw [World.frozen?_setCell]; exact h.f1
theorem OvAt.put1 (h : OvAt w0 W B b p x y) (z : Int) : OvAt w0 (W.setCell ⟨b, 1, none⟩ (.int .i64 z)) B b p x z := by
  refine ⟨⟨?_, ?_, ?_, ?_⟩, ?_, ?_, ?_, ?_, h.bel.setCell (p := ⟨b, 1, none⟩) h.ge _, h.ge, h.ne⟩
  · exact (World.cell?_setCell_far _ _ _ _ (show b ≠ B from Ne.symm h.ne)).trans h.box.c0
  · exact (World.cell?_setCell_far _ _ _ _ (show b ≠ B from Ne.symm h.ne)).trans h.box.c1
  · exact (World.cell?_setCell_far _ _ _ _ (show b ≠ B from Ne.symm h.ne)).trans h.box.c2
  · exact (World.cell?_setCell_far _ _ _ _ (show b ≠ B from Ne.symm h.ne)).trans h.box.c3
  · exact (World.cell?_setCell_other _ _ _ _ (by simp)).trans h.a0
  · exact World.cell?_setCell_same' _ _ _ (by rw [h.a1]; rfl)
  · rw [World.frozen?_setCell]; exact h.f0
  · rw [World.frozen?_setCell]; exact h.f1
end
set_option maxRecDepth 100000 in
set_option maxHeartbeats 4000000 in
theorem vof_c (p : Pos) (hbd : isBoard p.cells = true) (ha : p.side = 0 ∨ p.side = 1) (w : World) : Calls Tryz.prog 19 #[posV p] w fun e w' => e = .returned (.int .i64 (valS p.cells p.side)) ∧ Below w.heap.size w w' := by
  have HI := fun W => is_c p.cells W
  simp only [hbd] at HI
  have HI := Aside0.mk HI
  have HSZ := Aside0.mk (board_size hbd)
  have HS := Aside0.mk (fun (i : Nat) W => side_c (cel p.cells i) (cel_lt _ _) W)
  have HP := Aside0.mk (fun (i : Nat) (hi : i < 90) W => piece_c (cel p.cells i) i (cel_lt _ _) hi W)
  have HV := Aside0.mk (valS_parts (s := p.cells) ha)
  have HL := Aside0.mk (fun (a : Int) (i : Nat) (hi : i ≤ 90) => partV_le p.cells a hi)
  have HLP := Aside0.mk (fun (i : Nat) (hi : i < 90) => pieceV_le (cel p.cells i) hi)
  have HN := Aside0.mk (fun (a : Int) (i : Nat) => partV_next p.cells a i)
  have hu := Tryz.underlying23
  have HB0 := Aside0.mk (BoxP.new w p)
  have HL0 := Aside0.mk (below_alloc (Below.refl w.heap.size w) (.cells #[.string p.cells, .int .i64 p.side, .int .i64 p.clock, .int .i64 p.full] 23))
  have HLT := Aside0.mk (show w.heap.size < (w.alloc (.cells #[.string p.cells, .int .i64 p.side, .int .i64 p.clock, .int .i64 p.full] 23)).heap.size by simp)
  clear hbd
  go_enter Tryz.func19, Tryz.ntmps19
  go_upto_region 1 with fail
  generalize w.alloc (.cells #[.string p.cells, .int .i64 p.side, .int .i64 p.clock, .int .i64 p.full] 23) = W1 at *
  obtain ⟨c0, c1, c2, c3⟩ := HB0.out
  go_wp2_with fail
  refine (HI.out _).mono ?_
  rintro e w1 ⟨rfl, hb⟩
  have HB1 := Aside0.mk (And.intro (HB0.out.below hb) (below_go HL0.out hb))
  have HG := Aside0.mk (show w.heap.size < w1.heap.size from Nat.lt_of_lt_of_le HLT.out hb.size)
  clear hb c0 c1 c2 c3
  go_upto_region 4 with fail
  have HO := Aside0.mk (show OvAt w (w1.alloc (.cells #[.int .i64 0, .int .i64 0] 59)) w.heap.size w1.heap.size p (partV p.cells 0 0) (partV p.cells 1 0) from
    ⟨HB1.out.1.below (below_alloc (Below.refl _ _) _), by simp [World.cell?_alloc_at]; rfl, by simp [World.cell?_alloc_at]; rfl, by simp [World.frozen?_alloc_at], by simp [World.frozen?_alloc_at], below_new HB1.out.2 _, Nat.le_of_lt HG.out, Nat.ne_of_lt HG.out⟩)
  generalize w1.alloc (.cells #[.int .i64 0, .int .i64 0] 59) = w2 at *
  clear HB1
  generalize w1.heap.size = b at *
  go_wp2_with fail
  go_loopg [11] 90 (fun gg s11 wr => ∃ i : Nat, s11 = .int .i64 (i : Int) ∧ i + gg = 90 ∧ Aside0 (OvAt w wr w.heap.size b p (partV p.cells 0 i) (partV p.cells 1 i)))
  case atStart => exact ⟨0, rfl, by omega, HO⟩
  case round =>
    clear HO
    obtain ⟨i, rfl, hi, HO⟩ := hrel
    have hbx := HL.out 0 i (by omega)
    have hby := HL.out 1 i (by omega)
    obtain ⟨x, hx⟩ : ∃ x, partV p.cells 0 i = x := ⟨_, rfl⟩
    obtain ⟨y, hy⟩ : ∃ y, partV p.cells 1 i = y := ⟨_, rfl⟩
    rw [hx] at HO hbx
    rw [hy] at HO hby
    obtain ⟨c0, c1, c2, c3⟩ := HO.out.box
    have a0 := HO.out.a0
    have a1 := HO.out.a1
    have f0 := HO.out.f0
    have f1 := HO.out.f1
    cases gk with
    | zero =>
      have hn : ¬ (i : Int) < 90 := by omega
      have hE : ((p.side != 0) = false ∧ valS p.cells p.side = x - y) ∨ ((p.side != 0) = true ∧ valS p.cells p.side = -(x - y)) := by
        have hi9 : i = 90 := by omega
        have := HV.out
        rw [hi9] at hx hy
        rcases ha with h | h
        · refine .inl ⟨by rw [h]; rfl, ?_⟩
          rw [h] at this ⊢
          rw [show ((1 : Int) - 0) = 1 from rfl] at this
          omega
        · refine .inr ⟨by rw [h]; rfl, ?_⟩
          rw [h] at this ⊢
          rw [show ((1 : Int) - 1) = 0 from rfl] at this
          omega
      clear hx hy hi ha
      rcases hE with ⟨hne, hv⟩ | ⟨hne, hv⟩
      all_goals
        have HR := Aside0.mk hv
        clear hv
        go_wp2_with fail
        go_ret
        exact ⟨ret_int (by have := HR.out; omega), HO.out.bel⟩
    | succ g =>
      have hn : (i : Int) < 90 := by omega
      have hi9 : i < 90 := by omega
      have hsz : i < p.cells.size := by rw [HSZ.out]; exact hi9
      have hsz2 : (i : Int) < (p.cells.size : Int) := by omega
      have HIN := Aside0.mk (show i + 1 + g = 90 by omega)
      have HSi := HS.out i
      have HPi := Aside0.mk (HP.out i hi9)
      have hv1 := HLP.out i hi9
      have hqx := HN.out 0 i
      have hqy := HN.out 1 i
      rw [hx] at hqx
      rw [hy] at hqy
      generalize pieceV (cel p.cells i) i = v at *
      clear hi9 hi ha
      rcases side_opts (cel p.cells i) with hs | hs | hs
      · rw [hs] at hqx hqy
        simp only [hs] at HSi
        rw [if_neg (by omega), Int.add_zero] at hqx hqy
        have HSi := Aside0.mk HSi
        have HQ := Aside0.mk (And.intro hqx hqy)
        clear hqx hqy hx hy hv1 hs
        go_wp2_with (go_at_call 44; refine (HSi.out _).mono ?_; rintro e w3 ⟨rfl, rfl⟩)
        go_roundg g
        case measure => omega
        case rel => exact ⟨i + 1, by go_num, HIN.out, by rw [HQ.out.1, HQ.out.2]; exact HO⟩
      · rw [hs] at hqx hqy
        simp only [hs] at HSi
        rw [if_pos rfl] at hqx
        rw [if_neg (by omega), Int.add_zero] at hqy
        have HSi := Aside0.mk HSi
        have e1 : IntKind.i64.wrap (x + v) = x + v := by rw [IntKind.wrap_i64]; omega
        have HQ := Aside0.mk (And.intro hqx hqy)
        clear hqx hqy hx hy hv1 hs
        go_wp2_with (go_at_call 44; refine (HSi.out _).mono ?_; rintro e w3 ⟨rfl, rfl⟩)
        go_region_with (go_at_call 45; refine (HPi.out _).mono ?_; rintro e w3 ⟨rfl, hb⟩; have H3 := Aside0.mk (HO.out.drew.below hb); have a0' := H3.out.a0; have c0' := H3.out.box.c0; have f0' := H3.out.f0; clear hb)
        all_goals
          go_wp2_with fail
          go_roundg g
          case measure => omega
          case rel => exact ⟨i + 1, by go_num, HIN.out, by rw [HQ.out.1, HQ.out.2]; exact ⟨H3.out.put0 _⟩⟩
      · rw [hs] at hqx hqy
        simp only [hs] at HSi
        rw [if_neg (by omega), Int.add_zero] at hqx
        rw [if_pos rfl] at hqy
        have HSi := Aside0.mk HSi
        have e1 : IntKind.i64.wrap (y + v) = y + v := by rw [IntKind.wrap_i64]; omega
        have HQ := Aside0.mk (And.intro hqx hqy)
        clear hqx hqy hx hy hv1 hs
        go_wp2_with (go_at_call 44; refine (HSi.out _).mono ?_; rintro e w3 ⟨rfl, rfl⟩)
        go_region_with (go_at_call 45; refine (HPi.out _).mono ?_; rintro e w3 ⟨rfl, hb⟩; have H3 := Aside0.mk (HO.out.drew.below hb); have a1' := H3.out.a1; have c0' := H3.out.box.c0; have f1' := H3.out.f1; clear hb)
        all_goals
          go_wp2_with fail
          go_roundg g
          case measure => omega
          case rel => exact ⟨i + 1, by go_num, HIN.out, by rw [HQ.out.1, HQ.out.2]; exact ⟨H3.out.put1 _⟩⟩
set_option maxRecDepth 100000 in
set_option maxHeartbeats 4000000 in
theorem vmoved_c (v : Int) (hv : -30000 ≤ v ∧ v ≤ 30000) (c k : Nat) (hc : c < 256) (hk : k < 256) (m : Mv) (h1 : m.1 < 90) (h2 : m.2 < 90) (w : World) : Calls Tryz.prog 41 #[.int .i64 v, .int .u8 (c : Int), mvV m, .int .u8 (k : Int)] w fun e w' => e = .returned (.int .i64 (pieceV c m.1 - pieceV c m.2 - pieceV k m.2 - v)) ∧ Below w.heap.size w w' := by
  have H1 := Aside0.mk (fun W => piece_c c m.1 hc h1 W)
  have H2 := Aside0.mk (fun W => piece_c c m.2 hc h2 W)
  have H3 := Aside0.mk (fun W => piece_c k m.2 hk h2 W)
  have l1 := pieceV_le c h1
  have l2 := pieceV_le c h2
  have l3 := pieceV_le k h2
  have hu2 := Tryz.underlying54
  have HL0 := Aside0.mk (below_alloc (Below.refl w.heap.size w) (.cells #[.int .i64 (m.1 : Int), .int .i64 (m.2 : Int)] 54))
  have d0 : (w.alloc (.cells #[.int .i64 (m.1 : Int), .int .i64 (m.2 : Int)] 54)).cell? ⟨w.heap.size, 0, none⟩ = some (.int .i64 (m.1 : Int)) := by simp [World.cell?_alloc_at]
  have d1 : (w.alloc (.cells #[.int .i64 (m.1 : Int), .int .i64 (m.2 : Int)] 54)).cell? ⟨w.heap.size, 1, none⟩ = some (.int .i64 (m.2 : Int)) := by simp [World.cell?_alloc_at]
  have D0 := Aside0.mk d0
  have D1 := Aside0.mk d1
  clear d0 d1
  generalize pieceV c m.1 = x at *
  generalize pieceV c m.2 = y at *
  generalize pieceV k m.2 = z at *
  have e1 : IntKind.i64.wrap (x - y) = x - y := by rw [IntKind.wrap_i64]; omega
  have e2 : IntKind.i64.wrap (x - y - z) = x - y - z := by rw [IntKind.wrap_i64]; omega
  have e3 : IntKind.i64.wrap (x - y - z - v) = x - y - z - v := by rw [IntKind.wrap_i64]; omega
  clear hc hk h1 h2 l1 l2 l3 hv
  go_enter Tryz.func41, Tryz.ntmps41
  go_upto_region 1 with fail
  generalize w.alloc (.cells #[.int .i64 (m.1 : Int), .int .i64 (m.2 : Int)] 54) = W1 at *
  have d0 := fun q : BelowOf W1 => q.cell D0.out
  have d1 := fun q : BelowOf W1 => q.cell D1.out
  refine wp_region_below (by kernel_rfl) ?_
  repeat (quiet_step ((go_at_call 45; first | (with_reducible exact BelowOf.calls (H1.out _)) | (with_reducible exact BelowOf.calls (H2.out _)) | (with_reducible exact BelowOf.calls (H3.out _)))))
  refine wpQuiet_nil ?_
  rintro w2 ⟨⟨_, hb⟩, rfl⟩
  have HR := Aside0.mk (below_go HL0.out hb)
  clear hb d0 d1
  go_wp2_with fail
  go_ret
  exact ⟨rfl, HR.out⟩
end Go.Proofs.YtdkghbbjillboaaGreatDoor.K

/- quiet.within: what lies between two bounds. -/
namespace Go.Proofs.YtdkghbbjillboaaGreatDoor.K
open Go.RowKit Go.Lib Go.Proofs.YtdkghbbjillboaaGreatDoorW.PrintWords Go.Proofs.YtdkghbbjillboaaGreatDoorW.PrintLast Go.Proofs.YtdkghbbjillboaaGreatDoorW.PrintMore Go.Proofs.YtdkghbbjillboaaGreatDoor.Sp
set_option linter.unusedVariables false
set_option linter.unusedSimpArgs false
def WithinIs (p : Pos) (low high : Int) (W : World) (e : Ending) (w' : World) : Prop := e = .returned (.int .i64 (clipI (quietP p) low high)) ∧ Below W.heap.size W w'
theorem bestF_take (f : Mv → Int) (b : Int) (l : List Mv) (i : Nat) (hi : i < l.length) : bestF f b (l.take (i + 1)) = max (bestF f b (l.take i)) (f l[i]) := by
  rw [List.take_succ_eq_append_getElem hi, bestF_snoc]
theorem bestF_part (f : Mv → Int) (b : Int) (l : List Mv) (i : Nat) : bestF f b (l.take i) ≤ bestF f b l := by
  conv => rhs; rw [← List.take_append_drop i l]
  unfold bestF
  rw [List.foldl_append]
  exact bestF_le f (l.drop i) _
/-- A round of within's loop. -/
structure WiAt (W0 W : World) (B base b cap : Nat) (p : Pos) (ys : List Mv) : Prop where
  box : BoxP W B p
  own : W.ownsRow base 54 2 (.slice (some ⟨b, 0, none⟩) ys.length cap) ys.length (flatM ys)
  bel : Below W0.heap.size W0 W
theorem WiAt.below {W0 W W' : World} {B base b cap : Nat} {p : Pos} {ys : List Mv} (h : WiAt W0 W B base b cap p ys) (hb : Below W.heap.size W W') : WiAt W0 W' B base b cap p ys := ⟨h.box.below hb, pw_own_below h.own hb, below_go h.bel hb⟩
set_option maxRecDepth 100000 in
set_option maxHeartbeats 8000000 in
theorem within_next (p : Pos) (hw : wellS p = 0) (h9 : nP p.cells ≤ 9)
    (IH : ∀ q : Pos, wellS q = 0 → nP q.cells < nP p.cells → ∀ (low high : Int) (W : World), -1073741824 ≤ low → low < high → high ≤ 1073741824 → TabW W → Calls Tryz.prog 18 #[posV q, .int .i64 (valS q.cells q.side), .int .i64 low, .int .i64 high] W (WithinIs q low high W))
    (low high : Int) (W : World) (hlo : -1073741824 ≤ low) (hlh : low < high) (hhi : high ≤ 1073741824) (hT : TabW W) : Calls Tryz.prog 18 #[posV p, .int .i64 (valS p.cells p.side), .int .i64 low, .int .i64 high] W (WithinIs p low high W) := by
  have hck := well_check hw
  obtain ⟨hbd, hsd, _⟩ := argOk_yes (checkP_parts hck).1
  have HT := Aside0.mk (fun (W' : World) (hb : Below W.heap.size W W') => hT.below hb)
  have HM := Aside0.mk (fun (W : World) (hT : TabW W) => lmoves_c p W hT)
  have hu := Tryz.underlying23
  have hu2 := Tryz.underlying54
  have HB0 := Aside0.mk (BoxP.new W p)
  have HL0 := Aside0.mk (below_alloc (Below.refl W.heap.size W) (.cells #[.string p.cells, .int .i64 p.side, .int .i64 p.clock, .int .i64 p.full] 23))
  have hv := valS_le p.cells p.side
  have HLE := Aside0.mk (legal_eq hw)
  by_cases hno : legalL p = []
  · have HR := Aside0.mk (show clipI (quietP p) low high = min (max (-10000) low) high by rw [quietP_no (by rw [← legal_eq hw]; exact hno)]; rfl)
    rw [hno] at HM
    unfold WithinIs
    generalize valS p.cells p.side = v0 at *
    generalize clipI (quietP p) low high = r at *
    clear hw h9 IH hck hbd hsd hno HLE hT
    go_enter Tryz.func18, Tryz.ntmps18
    go_upto_region 1 with fail
    generalize W.alloc (.cells #[.string p.cells, .int .i64 p.side, .int .i64 p.clock, .int .i64 p.full] 23) = W1 at *
    obtain ⟨c0, c1, c2, c3⟩ := HB0.out
    go_wp2_with fail
    refine (HM.out _ (HT.out _ HL0.out)).mono ?_
    rintro e w1 ⟨v, rfl, ho, hb⟩
    obtain ⟨A, cp, hv⟩ := ho.reads.form
    have hv2 : v = .slice A 0 cp := hv
    clear hv
    subst hv2
    have HL1 := Aside0.mk (below_go HL0.out hb)
    clear ho hb c0 c1 c2 c3
    go_wp2_with fail
    go_ret
    exact ⟨ret_int (by rw [HR.out]), HL1.out⟩
  · obtain ⟨f, hq1, hq2⟩ := quietP_eq hw (by rw [← legal_eq hw]; exact hno)
    have HQ := Aside0.mk hq1
    have HF := Aside0.mk (fun (m : Mv) (hm : m ∈ takeL p.cells (legalL p)) => show ∃ q c, makeP p (mviOf m) = (q, c, 0) ∧ wellS q = 0 ∧ OkMv p q m c ∧ nP q.cells < nP p.cells ∧ f m = - quietP q by
      have hl := (List.mem_filter.1 hm).1
      obtain ⟨q, c, h1, h2, h3, h4, h5⟩ := legal_step8 hl
      rw [legal_eq hw] at hm
      obtain ⟨q', e1, e2, e3, e4, _⟩ := take_less hw hm
      exact ⟨q, c, h1, h2, h3, by rw [h4, ← e1]; omega, hq2 m hm q h4 h5 h2⟩)
    have HTK := Aside0.mk (show (takeL p.cells (legalL p)).length ≤ 20 from take_20 hw h9)
    have HLN := Aside0.mk (show (legalL p).length ≤ 8100 by rw [legal_eq hw]; exact legalR_len _ _)
    have HM90 := Aside0.mk (fun (m : Mv) (hm : m ∈ legalL p) => show m.1 < 90 ∧ m.2 < 90 by rw [legal_eq hw] at hm; exact gathM_mem (Nat.le_refl _) (List.mem_filter.1 hm).1)
    rw [← legal_eq hw] at HQ
    have HCP := Aside0.mk (fun (base b cap : Nat) (W : World) (ho : W.ownsRow base 54 2 (.slice (some ⟨b, 0, none⟩) (legalL p).length cap) (legalL p).length (flatM (legalL p))) (hb0 : base ≤ b) (hbW : b < W.heap.size) (hcap : (legalL p).length ≤ cap) => caps_c p hbd base b cap (legalL p) W ho hb0 hbW (fun m hm => (HM90.out m hm).2) hcap HTK.out (Nat.le_trans HLN.out (by decide)))
    have HAT := Aside0.mk (fun (n : Nat) (hn : n < 90) (W : World) => show Calls Tryz.prog 42 #[.string p.cells, .int .i64 (n : Int)] W fun e w' => e = .returned (.int .u8 (cel p.cells n : Int)) ∧ Below W.heap.size W w' by rw [← at_cel hbd hn]; exact at_c p.cells (n : Int) W)
    have HMK := Aside0.mk (fun (m : Mvi) (W : World) (hT : TabW W) => make_c p m W hT)
    have HIH := Aside0.mk IH
    have HVM := Aside0.mk (fun (q : Pos) (m : Mv) (c : Nat) (h : OkMv p q m c) => val_moved h)
    have hln0 : ((legalL p).length : Int) ≠ 0 := by
      cases h : legalL p with
      | nil => exact absurd h hno
      | cons x r => simp; omega
    have hlnb : (((legalL p).length : Int) == 0) = false := by simpa using hln0
    unfold WithinIs
    have HLT := Aside0.mk (show W.heap.size < (W.alloc (.cells #[.string p.cells, .int .i64 p.side, .int .i64 p.clock, .int .i64 p.full] 23)).heap.size by simp)
    generalize valS p.cells p.side = v0 at *
    generalize legalL p = l at *
    clear hw h9 IH hck hbd hsd hno HLE hT hq1 hq2 hln0
    go_enter Tryz.func18, Tryz.ntmps18
    go_upto_region 1 with fail
    generalize W.alloc (.cells #[.string p.cells, .int .i64 p.side, .int .i64 p.clock, .int .i64 p.full] 23) = W1 at *
    obtain ⟨c0, c1, c2, c3⟩ := HB0.out
    go_wp2_with fail
    refine (HM.out _ (HT.out _ HL0.out)).mono ?_
    rintro e w1 ⟨v, rfl, ho, hb⟩
    have HL1 := Aside0.mk (And.intro (HB0.out.below hb) (below_go HL0.out hb))
    have ho' := ho
    clear hb c0 c1 c2 c3
    obtain ⟨hl, ⟨rfl, h0⟩ | ⟨b, cap, cur0, rfl, hb0, hh, hnc, hcm, hcs, hct⟩⟩ := ho
    · exfalso; rw [h0] at hlnb; simp at hlnb
    have HC := Aside0.mk (HCP.out W1.heap.size b cap w1 ho' hb0 (blk_lt hh) hnc)
    clear hl hh hnc hcm hcs hct ho' hb0
    obtain ⟨c0, c1, c2, c3⟩ := HL1.out.1
    go_wp2_with fail
    refine HC.out.mono ?_
    rintro e w2 ⟨ys, rfl, hperm, hown, hb⟩
    have HW : Aside0 (WiAt W w2 W.heap.size W1.heap.size b cap p ys) := ⟨⟨⟨(hb.cell (p := ⟨W.heap.size, 0, none⟩) HLT.out).trans c0, (hb.cell (p := ⟨W.heap.size, 1, none⟩) HLT.out).trans c1, (hb.cell (p := ⟨W.heap.size, 2, none⟩) HLT.out).trans c2, (hb.cell (p := ⟨W.heap.size, 3, none⟩) HLT.out).trans c3⟩, hown, HL1.out.2.trans (hb.mono (Nat.le_of_lt HLT.out))⟩⟩
    have HPQ := Aside0.mk (show quietP p = bestF f v0 ys by rw [HQ.out]; exact (bestF_perm f hperm v0).symm)
    have HFY := Aside0.mk (fun (m : Mv) (hm : m ∈ ys) => HF.out m (hperm.subset hm))
    have HYL := Aside0.mk (show ys.length ≤ 20 by rw [hperm.length_eq]; exact HTK.out)
    have HY90 := Aside0.mk (fun (m : Mv) (hm : m ∈ ys) => HM90.out m (List.mem_filter.1 (hperm.subset hm)).1)
    clear hperm hown hb c0 c1 c2 c3 HL1 HLT HC HCP HM HQ HF HTK HM90 HLN HB0 HL0 hlnb
    generalize W1.heap.size = base at *
    go_wp2_with fail
    go_loopg [2, 32] ys.length (fun gg s2 s32 wr => ∃ (i : Nat) (cur : Int), s2 = .int .i64 cur ∧ s32 = .int .i64 (i : Int) ∧ i + gg = ys.length ∧ -1073741824 ≤ cur ∧ cur ≤ 1073741824 ∧ Aside0 (min cur high = min (max (bestF f v0 (ys.take i)) low) high) ∧ Aside0 (WiAt W wr W.heap.size base b cap p ys))
    case atStart => exact ⟨0, max low v0, rfl, rfl, by omega, by omega, by omega, ⟨show min (max low v0) high = min (max v0 low) high by omega⟩, HW⟩
    case round =>
      clear HW
      obtain ⟨i, cur, rfl, rfl, hi, hcl, hcu, HE, HW⟩ := hrel
      cases gk with
      | zero =>
        have hn : ¬ ((i : Int) < (ys.length : Int)) := by omega
        have HR := Aside0.mk (show min cur high = clipI (quietP p) low high by rw [HPQ.out, HE.out, show ys.take i = ys by rw [show i = ys.length by omega]; exact List.take_length]; rfl)
        clear hi
        go_wp2_with fail
        go_ret
        exact ⟨ret_int HR.out, HW.out.bel⟩
      | succ g =>
        have hn : (i : Int) < (ys.length : Int) := by omega
        have hil : i < ys.length := by omega
        have hib : (i : Int) ≤ 20 := by have := HYL.out; omega
        have HIN := Aside0.mk (show i + 1 + g = ys.length by omega)
        obtain ⟨x0, x1⟩ := OwnM.cellsAt HW.out.own i hil
        have hge : ys.getD i (0, 0) = ys[i] := by simp [List.getD_eq_getElem?_getD, hil]
        rw [hge] at x0 x1
        obtain ⟨q, c, hmk, hwq, hok, hnq, hfq⟩ := HFY.out ys[i] (List.getElem_mem hil)
        obtain ⟨hm1, hm2⟩ := HY90.out ys[i] (List.getElem_mem hil)
        have HNX := Aside0.mk (bestF_take f v0 ys i hil)
        have HPT := Aside0.mk (show bestF f v0 (ys.take i) ≤ quietP p by rw [HPQ.out]; exact bestF_part f v0 ys i)
        have HVM2 := Aside0.mk (HVM.out q ys[i] c hok)
        have hcc : c < 256 := by rw [hok.tk]; first | (split <;> first | omega | exact cel_lt _ _)
        generalize ys[i] = m at *
        obtain ⟨ma, mb⟩ := m
        simp only at x0 x1 hm1 hm2
        have HMV := Aside0.mk (fun (W : World) => vmoved_c v0 (by omega) (cel p.cells ma) c (cel_lt _ _) hcc (ma, mb) hm1 hm2 W)
        have HAT1 := Aside0.mk (HAT.out ma hm1)
        have HFQ := Aside0.mk (And.intro hmk (And.intro hwq (And.intro hnq hfq)))
        clear hge hmk hwq hok hnq hfq hm1 hm2 hcc hi
        go_upto_region 8 with fail
        have HW3 := Aside0.mk (HW.out.below (below_alloc (Below.refl _ _) (.cells #[.int .i64 (ma : Int), .int .i64 (mb : Int)] 54)))
        have d0 : (wr.alloc (.cells #[.int .i64 (ma : Int), .int .i64 (mb : Int)] 54)).cell? ⟨wr.heap.size, 0, none⟩ = some (.int .i64 (ma : Int)) := by simp [World.cell?_alloc_at]
        have d1 : (wr.alloc (.cells #[.int .i64 (ma : Int), .int .i64 (mb : Int)] 54)).cell? ⟨wr.heap.size, 1, none⟩ = some (.int .i64 (mb : Int)) := by simp [World.cell?_alloc_at]
        generalize wr.alloc (.cells #[.int .i64 (ma : Int), .int .i64 (mb : Int)] 54) = w3 at *
        generalize wr.heap.size = b11 at *
        clear HW x0 x1
        by_cases hcut : high ≤ cur
        · have HR := Aside0.mk (show high = clipI (quietP p) low high from within_cut hcut HE.out HPT.out)
          clear d0 d1
          go_wp2_with fail
          go_ret
          exact ⟨ret_int HR.out, HW3.out.bel⟩
        · have hlt : cur < high := by omega
          obtain ⟨c0, c1, c2, c3⟩ := HW3.out.box
          have HMK2 := Aside0.mk (HMK.out (mviOf (ma, mb)) w3 (HT.out _ HW3.out.bel))
          unfold MakeIs at HMK2
          rw [HFQ.out.1] at HMK2
          have HDD := Aside0.mk (And.intro d0 d1)
          go_wp2_with fail
          refine HMK2.out.mono ?_
          rintro e w4 ⟨rfl, hb⟩
          have HW4 := Aside0.mk (And.intro (HW3.out.below hb) (And.intro (pw_cell_below hb HDD.out.1) (pw_cell_below hb HDD.out.2)))
          clear hb d0 d1 c0 c1 c2 c3 HW3 HMK2 HDD
          go_upto_region 11 with fail
          have HQB := Aside0.mk (BoxP.new w4 q)
          have HL5 := Aside0.mk (below_alloc (Below.refl w4.heap.size w4) (.cells #[.string q.cells, .int .i64 q.side, .int .i64 q.clock, .int .i64 q.full] 23))
          have HW5 := Aside0.mk (And.intro (HW4.out.1.below HL5.out) (And.intro (pw_cell_below HL5.out HW4.out.2.1) (pw_cell_below HL5.out HW4.out.2.2)))
          generalize w4.alloc (.cells #[.string q.cells, .int .i64 q.side, .int .i64 q.clock, .int .i64 q.full] 23) = w5 at *
          generalize w4.heap.size = b12 at *
          clear HL5 HW4
          have c0 := fun z : BelowOf w5 => z.cell HW5.out.1.box.c0
          have d0 := fun z : BelowOf w5 => z.cell HW5.out.2.1
          have d1 := fun z : BelowOf w5 => z.cell HW5.out.2.2
          refine wp_region_below (by kernel_rfl) ?_
          repeat (quiet_step (first
            | (go_at_call 42; exact BelowOf.calls (HAT1.out _))
            | (go_at_call 41; exact BelowOf.calls (HMV.out _))))
          refine wpQuiet_nil ?_
          rintro w6 ⟨⟨_, hb⟩, rfl⟩
          have HW6 := Aside0.mk (And.intro (HW5.out.1.below hb) (HQB.out.below hb))
          clear hb c0 d0 d1 HW5 HQB
          obtain ⟨e0, e1, e2, e3⟩ := HW6.out.2
          have HC6 := Aside0.mk (HIH.out q HFQ.out.2.1 HFQ.out.2.2.1 (-high) (-cur) w6 (by omega) (by omega) (by omega) (HT.out _ HW6.out.1.bel))
          unfold WithinIs at HC6
          have HVE := Aside0.mk (show pieceV (cel p.cells ma) ma - pieceV (cel p.cells ma) mb - pieceV c mb - v0 = valS q.cells q.side from HVM2.out.symm)
          have HCN := Aside0.mk (clip_neg (quietP q) cur high (Int.le_of_lt hlt))
          have hrb : -high ≤ clipI (quietP q) (-high) (-cur) ∧ clipI (quietP q) (-high) (-cur) ≤ -cur := by unfold clipI; omega
          have HNE := Aside0.mk (show min (max cur (-clipI (quietP q) (-high) (-cur))) high = min (max (bestF f v0 (ys.take (i + 1))) low) high by
            rw [HCN.out, HNX.out, HFQ.out.2.2.2]
            exact within_round hlt HE.out)
          rw [HVE.out]
          generalize clipI (quietP q) (-high) (-cur) = r at *
          obtain ⟨hr1, hr2⟩ := hrb
          generalize valS q.cells q.side = vq at *
          clear hcut
          go_wp2_with fail
          refine HC6.out.mono ?_
          rintro e w7 ⟨rfl, hb⟩
          have HW7 := Aside0.mk (HW6.out.1.below hb)
          clear hb e0 e1 e2 e3 HW6
          go_wp2_with fail
          go_roundg g
          case measure => omega
          case rel => exact ⟨i + 1, max cur (-r), rfl, by go_num, HIN.out, by omega, by omega, HNE, HW7⟩
theorem within_c : ∀ (k : Nat) (p : Pos), wellS p = 0 → nP p.cells ≤ k → nP p.cells ≤ 9 → ∀ (low high : Int) (W : World), -1073741824 ≤ low → low < high → high ≤ 1073741824 → TabW W → Calls Tryz.prog 18 #[posV p, .int .i64 (valS p.cells p.side), .int .i64 low, .int .i64 high] W (WithinIs p low high W)
  | 0, p, hw, hk, h9, low, high, W, h1, h2, h3, hT => within_next p hw h9 (fun q _ hq => by omega) low high W h1 h2 h3 hT
  | k + 1, p, hw, hk, h9, low, high, W, h1, h2, h3, hT => within_next p hw h9 (fun q hwq hq low high W h1 h2 h3 hT => within_c k q hwq (by omega) (by omega) low high W h1 h2 h3 hT) low high W h1 h2 h3 hT
end Go.Proofs.YtdkghbbjillboaaGreatDoor.K

/- quiet.Of, quiet.Window. -/
namespace Go.Proofs.YtdkghbbjillboaaGreatDoor.K
open Go.RowKit Go.Lib Go.Proofs.YtdkghbbjillboaaGreatDoorW.PrintWords Go.Proofs.YtdkghbbjillboaaGreatDoor.Sp
set_option linter.unusedVariables false
set_option linter.unusedSimpArgs false
theorem ofQ_well {p : Pos} (hw : wellS p = 0) : ofQ p = quietP p := if_pos hw
theorem ofQ_not {p : Pos} (hw : wellS p ≠ 0) : ofQ p = 0 := if_neg hw
set_option maxRecDepth 100000 in
set_option maxHeartbeats 4000000 in
theorem qof_c (p : Pos) (h9 : wellS p = 0 → nP p.cells ≤ 9) (W : World) (hT : TabW W) : Calls Tryz.prog 8 #[posV p] W fun e w' => e = .returned (.int .i64 (ofQ p)) ∧ Below W.heap.size W w' := by
  have HT := Aside0.mk (fun (W' : World) (hb : Below W.heap.size W W') => hT.below hb)
  have HWL := Aside0.mk (fun (W' : World) (hT : TabW W') => well_c p W' hT)
  have hu := Tryz.underlying23
  have HB0 := Aside0.mk (BoxP.new W p)
  have HL0 := Aside0.mk (below_alloc (Below.refl W.heap.size W) (.cells #[.string p.cells, .int .i64 p.side, .int .i64 p.clock, .int .i64 p.full] 23))
  by_cases hw : wellS p = 0
  · obtain ⟨hbd, hsd, _⟩ := argOk_yes (checkP_parts (well_check hw)).1
    have HV := Aside0.mk (fun W => vof_c p hbd hsd W)
    have HR := Aside0.mk (show clipI (quietP p) (-1073741824) 1073741824 = ofQ p by rw [← ofQ_well hw]; exact winQ_of.symm)
    have HWI := Aside0.mk (fun (W : World) (hT : TabW W) => (within_c 9 p hw (h9 hw) (h9 hw) (-1073741824) 1073741824 W (by decide) (by decide) (by decide) hT))
    unfold WithinIs at HWI
    rw [hw] at HWL
    simp only [HR.out] at HWI
    generalize valS p.cells p.side = v0 at *
    generalize ofQ p = r at *
    clear hT h9 hw hbd hsd HR
    go_enter Tryz.func8, Tryz.ntmps8
    go_upto_region 1 with fail
    generalize W.alloc (.cells #[.string p.cells, .int .i64 p.side, .int .i64 p.clock, .int .i64 p.full] 23) = W1 at *
    obtain ⟨c0, c1, c2, c3⟩ := HB0.out
    go_wp2_with fail
    refine (HWL.out _ (HT.out _ HL0.out)).mono ?_
    rintro e w1 ⟨rfl, hb⟩
    have H1 := Aside0.mk (And.intro (HB0.out.below hb) (below_go HL0.out hb))
    clear hb c0 c1 c2 c3
    have c0 := fun z : BelowOf w1 => z.cell H1.out.1.c0
    have c1 := fun z : BelowOf w1 => z.cell H1.out.1.c1
    have c2 := fun z : BelowOf w1 => z.cell H1.out.1.c2
    have c3 := fun z : BelowOf w1 => z.cell H1.out.1.c3
    go_wp2_with fail
    refine wp_region_below (by kernel_rfl) ?_
    repeat (quiet_step (first
      | (go_at_call 19; exact BelowOf.calls (HV.out _))
      | (go_at_call 18; exact BelowOf.calls (HWI.out _ (HT.out _ (below_go H1.out.2 (BelowOf.bel _)))))))
    refine wpQuiet_nil ?_
    rintro w2 ⟨⟨_, hb⟩, rfl⟩
    have H2 := Aside0.mk (below_go H1.out.2 hb)
    clear hb c0 c1 c2 c3
    go_wp2_with fail
    go_ret
    exact ⟨rfl, H2.out⟩
  · rw [ofQ_not hw]
    generalize hx : wellS p = x at *
    have hn : (x != 0) = true := by simpa using hw
    clear hT h9 hw hx
    go_enter Tryz.func8, Tryz.ntmps8
    go_upto_region 1 with fail
    generalize W.alloc (.cells #[.string p.cells, .int .i64 p.side, .int .i64 p.clock, .int .i64 p.full] 23) = W1 at *
    obtain ⟨c0, c1, c2, c3⟩ := HB0.out
    go_wp2_with fail
    refine (HWL.out _ (HT.out _ HL0.out)).mono ?_
    rintro e w1 ⟨rfl, hb⟩
    have H1 := Aside0.mk (below_go HL0.out hb)
    clear hb
    go_wp2_with fail
    go_ret
    exact ⟨rfl, H1.out⟩
set_option maxRecDepth 100000 in
set_option maxHeartbeats 4000000 in
theorem qwin_c (p : Pos) (h9 : wellS p = 0 → nP p.cells ≤ 9) (low high : Int) (W : World) (hT : TabW W) : Calls Tryz.prog 10 #[posV p, .int .i64 low, .int .i64 high] W fun e w' => e = .returned (.int .i64 (winQ p low high)) ∧ Below W.heap.size W w' := by
  have HT := Aside0.mk (fun (W' : World) (hb : Below W.heap.size W W') => hT.below hb)
  have HWL := Aside0.mk (fun (W' : World) (hT : TabW W') => well_c p W' hT)
  have hu := Tryz.underlying23
  have HB0 := Aside0.mk (BoxP.new W p)
  have HL0 := Aside0.mk (below_alloc (Below.refl W.heap.size W) (.cells #[.string p.cells, .int .i64 p.side, .int .i64 p.clock, .int .i64 p.full] 23))
  by_cases h1 : high ≤ low
  · have HR := Aside0.mk (show winQ p low high = low from if_pos h1)
    clear hT h9
    go_enter Tryz.func10, Tryz.ntmps10
    go_wp2_with fail
    go_ret
    exact ⟨ret_int HR.out.symm, HL0.out⟩
  have hlh : low < high := by omega
  by_cases h2 : 1073741824 ≤ low
  · have HR := Aside0.mk (winQ_big (p := p) hlh h2)
    clear hT h9 hlh
    go_enter Tryz.func10, Tryz.ntmps10
    go_wp2_with fail
    go_ret
    exact ⟨ret_int HR.out.symm, HL0.out⟩
  by_cases h3 : high ≤ -1073741824
  · have HR := Aside0.mk (winQ_small (p := p) hlh h3)
    clear hT h9 hlh
    go_enter Tryz.func10, Tryz.ntmps10
    go_wp2_with fail
    go_ret
    exact ⟨ret_int HR.out.symm, HL0.out⟩
  by_cases hw : wellS p = 0
  · obtain ⟨hbd, hsd, _⟩ := argOk_yes (checkP_parts (well_check hw)).1
    have HV := Aside0.mk (fun W => vof_c p hbd hsd W)
    have HR := Aside0.mk (show clipI (quietP p) (max low (-1073741824)) (min high 1073741824) = winQ p low high by rw [← ofQ_well hw]; exact (winQ_cut hlh h2 h3).symm)
    have HWI := Aside0.mk (fun (W : World) (hT : TabW W) => (within_c 9 p hw (h9 hw) (h9 hw) (max low (-1073741824)) (min high 1073741824) W (by omega) (by omega) (by omega) hT))
    unfold WithinIs at HWI
    rw [hw] at HWL
    simp only [HR.out] at HWI
    generalize valS p.cells p.side = v0 at *
    generalize winQ p low high = r at *
    clear hT h9 hw hbd hsd HR hlh
    go_enter Tryz.func10, Tryz.ntmps10
    go_upto_region 1 with fail
    generalize W.alloc (.cells #[.string p.cells, .int .i64 p.side, .int .i64 p.clock, .int .i64 p.full] 23) = W1 at *
    obtain ⟨c0, c1, c2, c3⟩ := HB0.out
    go_wp2_with fail
    refine (HWL.out _ (HT.out _ HL0.out)).mono ?_
    rintro e w1 ⟨rfl, hb⟩
    have H1 := Aside0.mk (And.intro (HB0.out.below hb) (below_go HL0.out hb))
    clear hb c0 c1 c2 c3
    have c0 := fun z : BelowOf w1 => z.cell H1.out.1.c0
    have c1 := fun z : BelowOf w1 => z.cell H1.out.1.c1
    have c2 := fun z : BelowOf w1 => z.cell H1.out.1.c2
    have c3 := fun z : BelowOf w1 => z.cell H1.out.1.c3
    go_wp2_with fail
    refine wp_region_below (by kernel_rfl) ?_
    repeat (quiet_step (first
      | (go_at_call 19; exact BelowOf.calls (HV.out _))
      | (go_at_call 18; exact BelowOf.calls (HWI.out _ (HT.out _ (below_go H1.out.2 (BelowOf.bel _)))))))
    refine wpQuiet_nil ?_
    rintro w2 ⟨⟨_, hb⟩, rfl⟩
    have H2 := Aside0.mk (below_go H1.out.2 hb)
    clear hb c0 c1 c2 c3
    go_wp2_with fail
    go_ret
    exact ⟨rfl, H2.out⟩
  · have HR := Aside0.mk (show winQ p low high = min (max 0 low) high by rw [winQ_in hlh, ofQ_not hw]; rfl)
    generalize hx : wellS p = x at *
    have hn : (x != 0) = true := by simpa using hw
    generalize winQ p low high = r at *
    clear hT h9 hw hx hlh
    go_enter Tryz.func10, Tryz.ntmps10
    go_upto_region 1 with fail
    generalize W.alloc (.cells #[.string p.cells, .int .i64 p.side, .int .i64 p.clock, .int .i64 p.full] 23) = W1 at *
    obtain ⟨c0, c1, c2, c3⟩ := HB0.out
    go_wp2_with fail
    refine (HWL.out _ (HT.out _ HL0.out)).mono ?_
    rintro e w1 ⟨rfl, hb⟩
    have H1 := Aside0.mk (below_go HL0.out hb)
    clear hb
    go_wp2_with fail
    go_ret
    exact ⟨ret_int HR.out.symm, H1.out⟩
end Go.Proofs.YtdkghbbjillboaaGreatDoor.K

/- Walks of the reference's value: Kind, Piece, Of. -/
namespace Go.Proofs.YtdkghbbjillboaaGreatDoor.K
open Go.RowKit Go.Lib Go.Proofs.YtdkghbbjillboaaGreatDoorW.PrintWords Go.Proofs.YtdkghbbjillboaaGreatDoor.Sp
set_option linter.unusedVariables false
set_option linter.unusedSimpArgs false
attribute [local go_sem] cel_get   -- for this text's walks alone
set_option maxRecDepth 100000 in
set_option maxHeartbeats 2000000 in
theorem rvkind_c (x : Nat) (hx : x < 256) (w : World) : Calls Tryz.prog 32 #[.int .u8 (x : Int)] w fun e w' => e = .returned (.int .i64 (kindV (kindN x))) ∧ w' = w := by
  have HK := Aside0.mk (fun W => rkind_c x hx W)
  rcases kindN_opts ⟨x, hx⟩ with h | h | h | h | h | h | h | h
  all_goals
    simp only at h
    simp only [h] at HK
    rw [h]
    clear h
    go_enter Tryz.func32, Tryz.ntmps32
    go_wp2_with (first | (go_at_call 33; refine (HK.out _).mono ?_; rintro e w' ⟨rfl, rfl⟩))
    go_ret
    exact ⟨rfl, rfl⟩
set_option maxRecDepth 100000 in
set_option maxHeartbeats 4000000 in
theorem rpieceV_c (x n : Nat) (hx : x < 256) (hn : n < 90) (w : World) : Calls Tryz.prog 16 #[.int .u8 (x : Int), .int .i64 (n : Int)] w fun e w' => e = .returned (.int .i64 (pieceV x n)) ∧ w' = w := by
  have HF := Aside0.mk (fun W => rfile_c n hn W)
  have HR := Aside0.mk (fun W => rrank_c n hn W)
  have HV := Aside0.mk (fun W => rvkind_c x hx W)
  have HK := Aside0.mk (fun W => rkind_c x hx W)
  have HS := Aside0.mk (fun W => rside_c x hx W)
  have hn0 : (0 : Int) ≤ (n : Int) := by omega
  have hn9 : (n : Int) ≤ 89 := by omega
  rcases side_opts x with hs | hs | hs
  · rw [pieceV_none (by omega)]
    rw [hs] at HS
    go_enter Tryz.func16, Tryz.ntmps16
    go_wp2_with (first | (go_at_call 29; refine (HS.out _).mono ?_; rintro e w' ⟨rfl, rfl⟩))
    go_ret
    exact ⟨rfl, rfl⟩
  all_goals
    have HO := Aside0.mk (fun W => rover_c n hn (sideN x) (by omega) W)
    rw [pieceV_side (by omega)]
    rw [hs] at HS HO ⊢
    have hkv := kindV_le (kindN x)
    have hf0 : ((n % 9 : Nat) : Int) ≤ 8 := by omega
    have hr0 : ((n / 9 : Nat) : Int) ≤ 9 := by omega
    unfold asideN rankN
    rw [hs]
    generalize overN n _ = ov at *
    generalize kindV (kindN x) = kv at *
    rcases kindN_opts ⟨x, hx⟩ with h | h | h | h | h | h | h | h
    all_goals
      simp only at h
      simp only [h] at HK ⊢
      generalize n % 9 = f at *
      generalize n / 9 = r at *
      clear h hs
      cases ov
      all_goals
        go_enter Tryz.func16, Tryz.ntmps16
        go_wp2_with (first | (go_at_call 29; refine (HS.out _).mono ?_; rintro e w' ⟨rfl, rfl⟩) | (go_at_call 30; refine (HF.out _).mono ?_; rintro e w' ⟨rfl, rfl⟩) | (go_at_call 31; refine (HR.out _).mono ?_; rintro e w' ⟨rfl, rfl⟩) | (go_at_call 33; refine (HK.out _).mono ?_; rintro e w' ⟨rfl, rfl⟩) | (go_at_call 32; refine (HV.out _).mono ?_; rintro e w' ⟨rfl, rfl⟩) | (go_at_call 34; refine (HO.out _).mono ?_; rintro e w' ⟨rfl, rfl⟩))
        all_goals
          go_ret
          refine ⟨ret_int ?_, rfl⟩
          first | (simp; done) | (simp; omega) | omega
def sumO (s : ByteArray) (a : Int) (i : Nat) : Int := sumV (fun n => ownV a (cel s n) n) i
theorem sumO_le (s : ByteArray) (a : Int) {i : Nat} (hi : i ≤ 90) : -27000 ≤ sumO s a i ∧ sumO s a i ≤ 27000 := by
  have := sumV_le (f := fun n => ownV a (cel s n) n) (b := 300) (n := i) (fun j hj => ownV_le a _ (by omega))
  unfold sumO
  omega
theorem sumO_next (s : ByteArray) (a : Int) (i : Nat) : sumO s a (i + 1) = sumO s a i + ownV a (cel s i) i := rfl
theorem own_sign {a : Int} (ha : a = 0 ∨ a = 1) (c n : Nat) : (((sideN c == 0) == (a == 0)) = true ∧ ownV a c n = pieceV c n) ∨ (((sideN c == 0) == (a == 0)) = false ∧ ownV a c n = - pieceV c n) := by
  unfold ownV
  rcases ha with rfl | rfl <;> rcases side_opts c with h | h | h <;> rw [h]
  · right; exact ⟨by decide, by rw [if_neg (by decide)]⟩
  · left; exact ⟨by decide, by rw [if_pos rfl]⟩
  · right; exact ⟨by decide, by rw [if_neg (by decide)]⟩
  · left; exact ⟨by decide, by rw [if_neg (by decide), pieceV_none (by omega)]; rfl⟩
  · right; exact ⟨by decide, by rw [if_neg (by decide)]⟩
  · left; exact ⟨by decide, by rw [if_pos rfl]⟩
set_option maxRecDepth 100000 in
set_option maxHeartbeats 4000000 in
theorem rvof_c (p : Pos) (hbd : isBoard p.cells = true) (ha : p.side = 0 ∨ p.side = 1) (w : World) : Calls Tryz.prog 15 #[posV p] w fun e w' => e = .returned (.int .i64 (valS p.cells p.side)) ∧ Below w.heap.size w w' := by
  have HI := fun W => ris_c p.cells (by rw [board_size hbd]; decide) W
  simp only [hbd] at HI
  have HI := Aside0.mk HI
  have HSZ := Aside0.mk (board_size hbd)
  have HS := Aside0.mk (fun (i : Nat) W => rside_c (cel p.cells i) (cel_lt _ _) W)
  have HP := Aside0.mk (fun (i : Nat) (hi : i < 90) W => rpieceV_c (cel p.cells i) i (cel_lt _ _) hi W)
  have HV := Aside0.mk (show valS p.cells p.side = sumO p.cells p.side 90 from rfl)
  have HL := Aside0.mk (fun (i : Nat) (hi : i ≤ 90) => sumO_le p.cells p.side hi)
  have HLP := Aside0.mk (fun (i : Nat) (hi : i < 90) => pieceV_le (cel p.cells i) hi)
  have HN := Aside0.mk (fun (i : Nat) => sumO_next p.cells p.side i)
  have HSG := Aside0.mk (fun (i : Nat) => own_sign ha (cel p.cells i) i)
  have hu := Tryz.underlying23
  have HB0 := Aside0.mk (BoxP.new w p)
  have HL0 := Aside0.mk (below_alloc (Below.refl w.heap.size w) (.cells #[.string p.cells, .int .i64 p.side, .int .i64 p.clock, .int .i64 p.full] 23))
  clear hbd ha
  go_enter Tryz.func15, Tryz.ntmps15
  go_upto_region 1 with fail
  generalize w.alloc (.cells #[.string p.cells, .int .i64 p.side, .int .i64 p.clock, .int .i64 p.full] 23) = W1 at *
  obtain ⟨c0, c1, c2, c3⟩ := HB0.out
  go_wp2_with fail
  refine (HI.out _).mono ?_
  rintro e w1 ⟨rfl, rfl⟩
  clear c0 c1 c2 c3
  go_wp2_with fail
  go_loopg [3, 4] 90 (fun gg s3 s4 wr => ∃ i : Nat, s3 = .int .i64 (sumO p.cells p.side i) ∧ s4 = .int .i64 (i : Int) ∧ i + gg = 90 ∧ Aside0 (BoxP wr w.heap.size p ∧ Below w.heap.size w wr))
  case atStart => exact ⟨0, rfl, rfl, by omega, ⟨HB0.out, HL0.out⟩⟩
  case round =>
    clear HB0 HL0
    obtain ⟨i, rfl, rfl, hi, HO⟩ := hrel
    obtain ⟨c0, c1, c2, c3⟩ := HO.out.1
    have hbx := HL.out i (by omega)
    cases gk with
    | zero =>
      have hn : ¬ (i : Int) < 90 := by omega
      have HR := Aside0.mk (show sumO p.cells p.side i = valS p.cells p.side by rw [show i = 90 by omega]; exact HV.out.symm)
      generalize sumO p.cells p.side i = x at *
      clear hi
      go_wp2_with fail
      go_ret
      exact ⟨ret_int HR.out, HO.out.2⟩
    | succ g =>
      have hn : (i : Int) < 90 := by omega
      have hi9 : i < 90 := by omega
      have hsz : i < p.cells.size := by rw [HSZ.out]; exact hi9
      have hsz2 : (i : Int) < (p.cells.size : Int) := by omega
      have HIN := Aside0.mk (show i + 1 + g = 90 by omega)
      have HSi := Aside0.mk (HS.out i)
      have HPi := Aside0.mk (HP.out i hi9)
      have hv1 := HLP.out i hi9
      have hq := HN.out i
      have hsg := HSG.out i
      generalize ownV p.side (cel p.cells i) i = o at *
      generalize pieceV (cel p.cells i) i = v at *
      generalize sideN (cel p.cells i) = sd at *
      generalize sumO p.cells p.side i = x at *
      clear hi9 hi
      rcases hsg with ⟨hb, ho⟩ | ⟨hb, ho⟩
      all_goals
        have HQ := Aside0.mk (And.intro hq ho)
        clear hq ho
        go_wp2_with fail
        go_quiet ((go_at_call 29; exact Calls.quiet_of_same (HSi.out _)))
        have HO2 := Aside0.mk (show BoxP (wr.drewN nq) w.heap.size p ∧ Below w.heap.size w (wr.drewN nq) from ⟨HO.out.1.below (pw_below_drewN (Below.refl _ _) nq), pw_below_drewN HO.out.2 nq⟩)
        generalize wr.drewN nq = w3 at *
        go_wp2_with (go_at_call 16; refine (HPi.out _).mono ?_; rintro e w4 ⟨rfl, rfl⟩)
        go_roundg g
        case measure => omega
        case rel => exact ⟨i + 1, congrArg (Value.int .i64) (by have := HQ.out.1; have := HQ.out.2; omega), by go_num, HIN.out, HO2⟩
end Go.Proofs.YtdkghbbjillboaaGreatDoor.K

/- Walks of the reference's quiet: of. -/
namespace Go.Proofs.YtdkghbbjillboaaGreatDoor.K
open Go.RowKit Go.Lib Go.Proofs.YtdkghbbjillboaaGreatDoorW.PrintWords Go.Proofs.YtdkghbbjillboaaGreatDoor.Sp
set_option linter.unusedVariables false
set_option linter.unusedSimpArgs false
attribute [local go_sem] cel_get   -- for this text's walks alone
/-- The captures among the first moves. -/
def tkR (s : ByteArray) (l : List Mv) (i : Nat) : List Mv := takeL s (l.take i)
theorem tkR_zero (s : ByteArray) (l : List Mv) : tkR s l 0 = [] := rfl
theorem tkR_all (s : ByteArray) (l : List Mv) : tkR s l l.length = takeL s l := by unfold tkR; rw [List.take_length]
theorem tkR_dot {s : ByteArray} {l : List Mv} {i : Nat} (hi : i < l.length) (h : cel s l[i].2 = 46) : tkR s l (i + 1) = tkR s l i := by
  unfold tkR takeL
  rw [List.take_succ_eq_append_getElem hi, List.filter_append]
  simp [h]
theorem tkR_take {s : ByteArray} {l : List Mv} {i : Nat} (hi : i < l.length) (h : cel s l[i].2 ≠ 46) : tkR s l (i + 1) = tkR s l i ++ [l[i]] := by
  unfold tkR takeL
  rw [List.take_succ_eq_append_getElem hi, List.filter_append]
  simp [h]
theorem tkR_mem {s : ByteArray} {l : List Mv} {i : Nat} {m : Mv} (h : m ∈ tkR s l i) : m ∈ takeL s l := by
  obtain ⟨h1, h2⟩ := List.mem_filter.1 h
  exact List.mem_filter.2 ⟨List.mem_of_mem_take h1, h2⟩
def Rof21 (p : Pos) (W : World) : Prop := Calls Tryz.prog 20 #[.string p.cells, .int .i64 p.side] W fun e w' => e = .returned (.int .i64 (quietP p)) ∧ Below W.heap.size W w'
set_option maxRecDepth 100000 in
set_option maxHeartbeats 8000000 in
theorem rof21_next (p : Pos) (hw : wellS p = 0) (IH : ∀ q : Pos, wellS q = 0 → nP q.cells < nP p.cells → ∀ W : World, Rof21 q W) (W : World) : Rof21 p W := by
  have hck := well_check hw
  obtain ⟨hbd, hsd, _⟩ := argOk_yes (checkP_parts hck).1
  have HOF := Aside0.mk (fun W => rof8_c p.cells hbd p.side W)
  have HSZ := Aside0.mk (board_size hbd)
  unfold Rof21
  by_cases hno : legalR p.cells p.side = []
  · have HR := Aside0.mk (quietP_no hno)
    rw [hno] at HOF
    clear hw IH hck hbd hsd hno HSZ
    go_enter Tryz.func20, Tryz.ntmps20
    go_wp2_with fail
    refine (HOF.out _).mono ?_
    rintro e w2 ⟨v, rfl, ho, hb⟩
    obtain ⟨A, cp, hv⟩ := ho.reads.form
    have hv2 : v = .slice A 0 cp := hv
    clear hv
    subst hv2
    have HB := Aside0.mk hb
    clear ho hb
    go_wp2_with fail
    go_ret
    exact ⟨ret_int HR.out.symm, HB.out⟩
  · obtain ⟨f, hq1, hq2⟩ := quietP_eq hw hno
    have HQ := Aside0.mk hq1
    have HV := Aside0.mk (fun W => rvof_c ⟨p.cells, p.side, 0, 0⟩ hbd hsd W)
    have hv := valS_le p.cells p.side
    have HLN := Aside0.mk (legalR_len p.cells p.side)
    have HLT := Aside0.mk (fun (m : Mv) (hm : m ∈ legalR p.cells p.side) => show m.1 < 90 ∧ m.2 < 90 from gathM_mem (Nat.le_refl _) (List.mem_filter.1 hm).1)
    have HMV := Aside0.mk (fun (x y : Nat) (hx : x < 90) (hy : y < 90) (W : World) => rmoved_c p.cells (board_size hbd) x y hx hy W)
    have HF := Aside0.mk (fun (m : Mv) (hm : m ∈ takeL p.cells (legalR p.cells p.side)) => show ∃ q : Pos, q.cells = movedB p.cells m.1 m.2 ∧ q.side = 1 - p.side ∧ f m = - quietP q ∧ ∀ W, Rof21 q W by
      obtain ⟨q, e1, e2, e3, e4, _⟩ := take_less hw hm
      exact ⟨q, e1, e2, hq2 m hm q e1 e2 e3, IH q e3 (by omega)⟩)
    have HBL := Aside0.mk (fun (i : Nat) => show -30000 ≤ bestF f (valS p.cells p.side) (tkR p.cells (legalR p.cells p.side) i) ∧ bestF f (valS p.cells p.side) (tkR p.cells (legalR p.cells p.side) i) ≤ 30000 from bestF_in _ _ _ _ (fun m hm => by
      obtain ⟨q, _, _, e3, _⟩ := HF.out m (tkR_mem hm)
      have := quietP_le q
      omega) _ (by omega) (by omega))
    have hln0 : ((legalR p.cells p.side).length : Int) ≠ 0 := by
      cases h : legalR p.cells p.side with
      | nil => exact absurd h hno
      | cons x r => simp; omega
    have hlnb : (((legalR p.cells p.side).length : Int) == 0) = false := by simpa using hln0
    have b3 : IntKind.i64.wrap (1 - p.side) = 1 - p.side := by rw [IntKind.wrap_i64]; omega
    generalize hl : legalR p.cells p.side = l at *
    generalize valS p.cells p.side = v0 at *
    clear hw IH hck hbd hsd hno hq1 hq2 hln0 hl
    go_enter Tryz.func20, Tryz.ntmps20
    go_wp2_with fail
    refine (HOF.out _).mono ?_
    rintro e w2 ⟨v, rfl, ho, hb⟩
    have HR : Aside0 (MvAt w2 W.heap.size v l ∧ Below W.heap.size W w2) := ⟨ho.reads, hb⟩
    obtain ⟨A, cp, hv⟩ := ho.reads.form
    subst hv
    clear hb ho
    go_wp2_with fail
    refine (HV.out _).mono ?_
    rintro e w3 ⟨rfl, hb⟩
    have HR3 := Aside0.mk (And.intro (HR.out.1.below hb) (below_go HR.out.2 hb))
    clear hb HR
    go_wp2_with fail
    go_loopg [6, 7] l.length (fun gg s6 s7 wr => ∃ (i : Nat), s6 = .int .i64 (bestF f v0 (tkR p.cells l i)) ∧ s7 = .int .i64 (i : Int) ∧ i + gg = l.length ∧ Aside0 (MvAt wr W.heap.size (.slice A l.length cp) l ∧ Below W.heap.size W wr))
    case atStart => exact ⟨0, rfl, rfl, by omega, HR3⟩
    case round =>
      clear HR3
      obtain ⟨i, rfl, rfl, hi, HR⟩ := hrel
      have hbl := HBL.out i
      cases gk with
      | zero =>
        have hn : ¬ ((i : Int) < (l.length : Int)) := by omega
        have HIE := Aside0.mk (show bestF f v0 (tkR p.cells l i) = quietP p by rw [show i = l.length by omega, tkR_all]; exact HQ.out.symm)
        generalize bestF f v0 (tkR p.cells l i) = x at *
        clear hi
        go_wp2_with fail
        go_ret
        exact ⟨ret_int HIE.out, HR.out.2⟩
      | succ g =>
        have hn : (i : Int) < (l.length : Int) := by omega
        have hil : i < l.length := by omega
        have hib : (i : Int) ≤ 8100 := by have := HLN.out; omega
        have HIN := Aside0.mk (show i + 1 + g = l.length by omega)
        obtain ⟨g1, cap1, hA1, _, hg1, hx1⟩ := HR.out.1.at (fun h => by rw [h] at hil; simp at hil)
        simp only [Value.slice.injEq, true_and] at hA1
        obtain ⟨rfl, rfl⟩ := hA1
        obtain ⟨x0, x1⟩ := hx1 i hil
        obtain ⟨hm1, hm2⟩ := HLT.out l[i] (List.getElem_mem hil)
        have hsz : l[i].2 < p.cells.size := by rw [HSZ.out]; exact hm2
        have hsz2 : (l[i].2 : Int) < (p.cells.size : Int) := by omega
        have HM1 := Aside0.mk (HMV.out l[i].1 l[i].2 hm1 hm2)
        obtain ⟨x, hx⟩ : ∃ x, bestF f v0 (tkR p.cells l i) = x := ⟨_, rfl⟩
        rw [hx] at hbl ⊢
        by_cases hc : cel p.cells l[i].2 = 46
        · have HNX := Aside0.mk (show bestF f v0 (tkR p.cells l (i + 1)) = x by rw [tkR_dot hil hc, hx])
          have hcb : (((cel p.cells l[i].2 : Nat) : Int) != 46) = false := by rw [hc]; rfl
          generalize l[i] = m at *
          obtain ⟨ma, mb⟩ := m
          simp only at x0 x1 hsz hsz2 hcb
          clear hx1 hi hm1 hm2 hil hc hx HM1
          go_wp2_with fail
          go_roundg g
          case measure => omega
          case rel => exact ⟨i + 1, by rw [HNX.out], by go_num, HIN.out, HR⟩
        · obtain ⟨q, e1, e2, e3, e4⟩ := HF.out l[i] (List.mem_filter.2 ⟨List.getElem_mem hil, by simpa using hc⟩)
          have HNX := Aside0.mk (show bestF f v0 (tkR p.cells l (i + 1)) = max x (- quietP q) by rw [tkR_take hil hc, bestF_snoc, hx, e3])
          have hcb : (((cel p.cells l[i].2 : Nat) : Int) != 46) = true := by simpa using (show ((cel p.cells l[i].2 : Nat) : Int) ≠ 46 by omega)
          have hqb := quietP_le q
          unfold Rof21 at e4
          rw [e1, e2] at e4
          have HRC := Aside0.mk e4
          generalize quietP q = r at *
          generalize l[i] = m at *
          obtain ⟨ma, mb⟩ := m
          simp only at x0 x1 hsz hsz2 hcb HM1 HRC
          clear hx1 hi hm1 hm2 hil hc hx e1 e2 e3 e4
          go_wp2_with fail
          refine (HM1.out _).mono ?_
          rintro e w4 ⟨rfl, hb⟩
          have H4 := Aside0.mk (And.intro (HR.out.1.below hb) (below_go HR.out.2 hb))
          clear hb x0 x1
          go_wp2_with fail
          refine (HRC.out _).mono ?_
          rintro e w5 ⟨rfl, hb⟩
          have H5 := Aside0.mk (And.intro (H4.out.1.below hb) (below_go H4.out.2 hb))
          clear hb
          go_wp2_with fail
          go_roundg g
          case measure => omega
          case rel => exact ⟨i + 1, by rw [HNX.out], by go_num, HIN.out, H5⟩
theorem rof21_c : ∀ (k : Nat) (p : Pos), wellS p = 0 → nP p.cells ≤ k → ∀ W : World, Rof21 p W
  | 0, p, hw, hk, W => rof21_next p hw (fun q _ hq => by omega) W
  | k + 1, p, hw, hk, W => rof21_next p hw (fun q hwq hq W => rof21_c k q hwq (by omega) W) W
end Go.Proofs.YtdkghbbjillboaaGreatDoor.K

/- The reference's quiet: Of, Window, Few. -/
namespace Go.Proofs.YtdkghbbjillboaaGreatDoor.K
open Go.RowKit Go.Lib Go.Proofs.YtdkghbbjillboaaGreatDoorW.PrintWords Go.Proofs.YtdkghbbjillboaaGreatDoor.Sp
set_option linter.unusedVariables false
set_option linter.unusedSimpArgs false
attribute [local go_sem] cel_get   -- for this text's walks alone
set_option maxRecDepth 100000 in
set_option maxHeartbeats 4000000 in
theorem rqof_c (p : Pos) (hmx : p.cells.size ≤ maxLen) (W : World) : Calls Tryz.prog 9 #[posV p] W fun e w' => e = .returned (.int .i64 (ofQ p)) ∧ Below W.heap.size W w' := by
  have HWL := Aside0.mk (fun W' => rwell_c p hmx W')
  have hu := Tryz.underlying23
  have HB0 := Aside0.mk (BoxP.new W p)
  have HL0 := Aside0.mk (below_alloc (Below.refl W.heap.size W) (.cells #[.string p.cells, .int .i64 p.side, .int .i64 p.clock, .int .i64 p.full] 23))
  by_cases hw : wellS p = 0
  · have HR := fun W => rof21_c (nP p.cells) p hw (Nat.le_refl _) W
    unfold Rof21 at HR
    have HR := Aside0.mk HR
    rw [hw] at HWL
    rw [show ofQ p = quietP p from if_pos hw]
    generalize quietP p = r at *
    clear hw hmx
    go_enter Tryz.func9, Tryz.ntmps9
    go_upto_region 1 with fail
    generalize W.alloc (.cells #[.string p.cells, .int .i64 p.side, .int .i64 p.clock, .int .i64 p.full] 23) = W1 at *
    obtain ⟨c0, c1, c2, c3⟩ := HB0.out
    go_wp2_with fail
    refine (HWL.out _).mono ?_
    rintro e w1 ⟨rfl, hb⟩
    have H1 := Aside0.mk (And.intro (HB0.out.below hb) (below_go HL0.out hb))
    clear hb c0 c1 c2 c3
    obtain ⟨c0, c1, c2, c3⟩ := H1.out.1
    go_wp2_with fail
    refine (HR.out _).mono ?_
    rintro e w2 ⟨rfl, hb⟩
    have H2 := Aside0.mk (below_go H1.out.2 hb)
    clear hb
    go_wp2_with fail
    go_ret
    exact ⟨rfl, H2.out⟩
  · rw [show ofQ p = 0 from if_neg hw]
    generalize hx : wellS p = x at *
    have hn : (x != 0) = true := by simpa using hw
    clear hw hx hmx
    go_enter Tryz.func9, Tryz.ntmps9
    go_upto_region 1 with fail
    generalize W.alloc (.cells #[.string p.cells, .int .i64 p.side, .int .i64 p.clock, .int .i64 p.full] 23) = W1 at *
    obtain ⟨c0, c1, c2, c3⟩ := HB0.out
    go_wp2_with fail
    refine (HWL.out _).mono ?_
    rintro e w1 ⟨rfl, hb⟩
    have H1 := Aside0.mk (below_go HL0.out hb)
    clear hb
    go_wp2_with fail
    go_ret
    exact ⟨rfl, H1.out⟩
set_option maxRecDepth 100000 in
set_option maxHeartbeats 4000000 in
theorem rqwin_c (p : Pos) (hmx : p.cells.size ≤ maxLen) (low high : Int) (W : World) : Calls Tryz.prog 11 #[posV p, .int .i64 low, .int .i64 high] W fun e w' => e = .returned (.int .i64 (winQ p low high)) ∧ Below W.heap.size W w' := by
  have HO := Aside0.mk (fun W => rqof_c p hmx W)
  have hu := Tryz.underlying23
  have HB0 := Aside0.mk (BoxP.new W p)
  have HL0 := Aside0.mk (below_alloc (Below.refl W.heap.size W) (.cells #[.string p.cells, .int .i64 p.side, .int .i64 p.clock, .int .i64 p.full] 23))
  by_cases h1 : high ≤ low
  · have HR := Aside0.mk (show winQ p low high = low from if_pos h1)
    go_enter Tryz.func11, Tryz.ntmps11
    go_wp2_with fail
    go_ret
    exact ⟨ret_int HR.out.symm, HL0.out⟩
  · have HR := Aside0.mk (show winQ p low high = min (max (ofQ p) low) high from if_neg h1)
    generalize winQ p low high = r at *
    generalize ofQ p = v at *
    go_enter Tryz.func11, Tryz.ntmps11
    go_upto_region 1 with fail
    generalize W.alloc (.cells #[.string p.cells, .int .i64 p.side, .int .i64 p.clock, .int .i64 p.full] 23) = W1 at *
    obtain ⟨c0, c1, c2, c3⟩ := HB0.out
    go_wp2_with fail
    refine (HO.out _).mono ?_
    rintro e w1 ⟨rfl, hb⟩
    have H1 := Aside0.mk (below_go HL0.out hb)
    clear hb
    go_wp2_with fail
    go_ret
    exact ⟨ret_int HR.out.symm, H1.out⟩
/-- How many of the first squares are not empty. -/
def cntD (s : ByteArray) (i : Nat) : Nat := ((List.range i).filter (fun j => cel s j != 46)).length
theorem cntD_next (s : ByteArray) (i : Nat) : cntD s (i + 1) = cntD s i + (if cel s i = 46 then 0 else 1) := by
  unfold cntD
  rw [List.range_succ, List.filter_append, List.length_append]
  congr 1
  by_cases h : cel s i = 46 <;> simp [h]
theorem cntD_le (s : ByteArray) (i : Nat) : cntD s i ≤ i := by
  unfold cntD
  exact Nat.le_trans (List.length_filter_le _ _) (by simp)
def Few21 (p : Pos) (most : Int) (W : World) (e : Ending) (w' : World) : Prop := ∃ b : Bool, e = .returned (.bool b) ∧ (b = true → wellS p = 0 → (nP p.cells : Int) ≤ most) ∧ Below W.heap.size W w'
set_option maxRecDepth 100000 in
set_option maxHeartbeats 4000000 in
theorem few21_c (p : Pos) (hmx : p.cells.size ≤ maxLen) (most : Int) (W : World) : Calls Tryz.prog 6 #[posV p, .int .i64 most] W (Few21 p most W) := by
  have hu := Tryz.underlying23
  have HB0 := Aside0.mk (BoxP.new W p)
  have HL0 := Aside0.mk (below_alloc (Below.refl W.heap.size W) (.cells #[.string p.cells, .int .i64 p.side, .int .i64 p.clock, .int .i64 p.full] 23))
  have HN := Aside0.mk (fun (i : Nat) => cntD_next p.cells i)
  have HE := Aside0.mk (fun (i : Nat) (hi : ¬ (i < p.cells.size ∧ p.cells.size ≤ 200)) (h2 : p.cells.size ≤ 200) (hle : i ≤ p.cells.size) (hc : (cntD p.cells i : Int) ≤ most) (hw : wellS p = 0) => show (nP p.cells : Int) ≤ most by
    have hbd := (argOk_yes (checkP_parts (well_check hw)).1).1
    have hsz := board_size hbd
    rw [show i = 90 by omega] at hc
    rw [nP_count hbd]
    exact hc)
  go_enter Tryz.func6, Tryz.ntmps6
  go_upto_region 1 with fail
  generalize W.alloc (.cells #[.string p.cells, .int .i64 p.side, .int .i64 p.clock, .int .i64 p.full] 23) = W1 at *
  obtain ⟨e0, e1, e2, e3⟩ := HB0.out
  go_wp2_with fail
  go_loopg [5, 6] 201 (fun gg s5 s6 wr => ∃ (i : Nat), s5 = .int .i64 (cntD p.cells i : Int) ∧ s6 = .int .i64 (i : Int) ∧ i + gg = 201 ∧ i ≤ p.cells.size ∧ cntD p.cells i ≤ i ∧ wr = W1)
  case atStart => exact ⟨0, rfl, rfl, by omega, by omega, by simp [cntD], rfl⟩
  case round =>
    obtain ⟨i, rfl, rfl, hi, hle, hci, rfl⟩ := hrel
    by_cases hgo : i < p.cells.size ∧ p.cells.size ≤ 200
    · obtain ⟨g, rfl⟩ : ∃ g, gk = g + 1 := ⟨gk - 1, by omega⟩
      have hn1 : (i : Int) < (p.cells.size : Int) := by omega
      have hn2 : (p.cells.size : Int) ≤ 200 := by omega
      have hn3 : i < p.cells.size := hgo.1
      have hib : (i : Int) ≤ 200 := by omega
      have HNi := HN.out i
      have HIN := Aside0.mk (And.intro (show i + 1 + g = 201 by omega) (And.intro (show i + 1 ≤ p.cells.size by omega) (show cntD p.cells (i + 1) ≤ i + 1 from cntD_le _ _)))
      have hcb2 : (cntD p.cells i : Int) ≤ 200 := by omega
      by_cases hc : cel p.cells i = 46
      · have hcb : (((cel p.cells i : Nat) : Int) != 46) = false := by rw [hc]; rfl
        rw [if_pos hc, Nat.add_zero] at HNi
        have HNX := Aside0.mk HNi
        generalize cntD p.cells i = c at *
        clear hgo hi hle hci hc HNi
        go_wp2_with fail
        go_roundg g
        case measure => omega
        case rel => exact ⟨i + 1, by rw [HNX.out]; rfl, by go_num, HIN.out.1, HIN.out.2.1, HIN.out.2.2, rfl⟩
      · have hcb : (((cel p.cells i : Nat) : Int) != 46) = true := by simpa using (show ((cel p.cells i : Nat) : Int) ≠ 46 by omega)
        rw [if_neg hc] at HNi
        have HNX := Aside0.mk HNi
        generalize cntD p.cells i = c at *
        clear hgo hi hle hci hc HNi
        go_wp2_with fail
        go_roundg g
        case measure => omega
        case rel => exact ⟨i + 1, by rw [HNX.out]; go_num, by go_num, HIN.out.1, HIN.out.2.1, HIN.out.2.2, rfl⟩
    · have HED := Aside0.mk (HE.out i hgo)
      have HLE := Aside0.mk hle
      rcases (show (¬ (i : Int) < (p.cells.size : Int) ∧ (p.cells.size : Int) ≤ 200 ∧ (cntD p.cells i : Int) ≤ most) ∨ (¬ (i : Int) < (p.cells.size : Int) ∧ (p.cells.size : Int) ≤ 200 ∧ ¬ (cntD p.cells i : Int) ≤ most) ∨ (¬ (i : Int) < (p.cells.size : Int) ∧ ¬ (p.cells.size : Int) ≤ 200) ∨ ((i : Int) < (p.cells.size : Int) ∧ ¬ (p.cells.size : Int) ≤ 200) by omega) with ⟨h1, h2, h3⟩ | ⟨h1, h2, h3⟩ | ⟨h1, h2⟩ | ⟨h1, h2⟩
      · clear hgo hi hle hci
        go_wp2_with fail
        go_ret
        exact ⟨true, rfl, fun _ hw => HED.out (by omega) HLE.out h3 hw, HL0.out⟩
      all_goals
        clear hgo hi hle hci
        go_wp2_with fail
        go_ret
        exact ⟨false, rfl, (fun h => by cases h), HL0.out⟩
end Go.Proofs.YtdkghbbjillboaaGreatDoor.K

/- Walks: the reference's Parse, at texts of two fields: letters, ranks. -/
namespace Go.Proofs.YtdkghbbjillboaaGreatDoor.K
open Go.RowKit Go.Lib Go.Proofs.YtdkghbbjillboaaGreatDoorW.PrintWords Go.Proofs.YtdkghbbjillboaaGreatDoor.Sp
set_option linter.unusedVariables false
set_option linter.unusedSimpArgs false
attribute [local go_sem] cel_get   -- for this text's walks alone
def letterN (x : Nat) : Nat := if x = 69 then 66 else if x = 101 then 98 else if x = 72 then 78 else if x = 104 then 110 else x
theorem letterN_lt {x : Nat} (h : x < 256) : letterN x < 256 := by unfold letterN; (repeat' split) <;> omega
theorem eqK (x k : Nat) : ((x : Int) == (k : Int)) = (x == k) := by rw [Bool.eq_iff_iff, beq_iff_eq, beq_iff_eq]; omega
theorem letter_c (x : Nat) (hx : x < 256) (w : World) : Calls Tryz.prog 91 #[.int .u8 (x : Int)] w fun e w' => e = .returned (.int .u8 (letterN x : Int)) ∧ w' = w := by
  have q1 : ((x : Int) == 69) = (x == 69) := eqK x 69
  have q2 : ((x : Int) == 101) = (x == 101) := eqK x 101
  have q3 : ((x : Int) == 72) = (x == 72) := eqK x 72
  have q4 : ((x : Int) == 104) = (x == 104) := eqK x 104
  cases h1 : (x == 69)
  all_goals cases h2 : (x == 101)
  all_goals cases h3 : (x == 72)
  all_goals cases h4 : (x == 104)
  all_goals
    rw [h1] at q1
    rw [h2] at q2
    rw [h3] at q3
    rw [h4] at q4
    have H := Aside0.mk (And.intro h1 (And.intro h2 (And.intro h3 h4)))
    clear h1 h2 h3 h4 hx
    go_enter Tryz.func91, Tryz.ntmps91
    go_wp2_with fail
    go_ret
    refine ⟨ret_int ?_, rfl⟩
    obtain ⟨h1, h2, h3, h4⟩ := H.out
    clear H q1 q2 q3 q4
    unfold letterN
    simp_all
/-- What one byte of a rank's text stands for. -/
def rkOne (x : Nat) : List Nat := if 49 ≤ letterN x ∧ letterN x ≤ 57 then List.replicate (letterN x - 48) 46 else [letterN x]
def rkTo (s : ByteArray) (n : Nat) : List Nat := (List.range n).flatMap (fun i => rkOne (cel s i))
theorem rkTo_succ (s : ByteArray) (n : Nat) : rkTo s (n + 1) = rkTo s n ++ rkOne (cel s n) := by
  unfold rkTo; rw [List.range_succ, List.flatMap_append]; simp
theorem rkOne_len (x : Nat) : (rkOne x).length ≤ 9 := by
  unfold rkOne; split
  · rw [List.length_replicate]; omega
  · simp
theorem rkTo_len (s : ByteArray) (n : Nat) : (rkTo s n).length ≤ 9 * n := by
  induction n with
  | zero => simp [rkTo]
  | succ n ih => rw [rkTo_succ, List.length_append]; have := rkOne_len (cel s n); omega
def rkOk (s : ByteArray) : Bool := decide (s.size ≤ 9) && ((List.range s.size).all (fun i => decide (49 ≤ letterN (cel s i) ∧ letterN (cel s i) ≤ 57) || decide (0 ≤ sideN (letterN (cel s i)))) && (rkTo s s.size).length == 9)
theorem strB_dot (l : List Nat) : strB l ++ ⟨#[46]⟩ = strB (l ++ [46]) := by
  apply ByteArray.ext
  rw [ByteArray.data_append]
  simp [strB]
set_option maxRecDepth 100000 in
set_option maxHeartbeats 4000000 in
theorem rank4_c (s : ByteArray) (hok : rkOk s = true) (w : World) : Calls Tryz.prog 55 #[.string s] w fun e w' => e = .returned (.tuple #[.string (strB (rkTo s s.size)), .bool true]) ∧ Below w.heap.size w w' := by
  unfold rkOk at hok
  simp only [Bool.and_eq_true, decide_eq_true_eq, List.all_eq_true, Bool.or_eq_true, beq_iff_eq] at hok
  obtain ⟨h9, hall, hlen⟩ := hok
  have HALL := Aside0.mk (fun i (hi : i < s.size) => hall i (List.mem_range.2 hi))
  have HLEN := Aside0.mk hlen
  have h9z : (s.size : Int) ≤ 9 := by omega
  have H9 := Aside0.mk h9
  clear hall hlen h9
  go_enter Tryz.func55, Tryz.ntmps55
  go_wp2_with fail
  go_loopg [4, 5] s.size (fun gg s4 s5 wr => ∃ (i : Nat) (acc : ByteArray), s5 = .int .i64 i ∧ i + gg = s.size ∧ s4 = .string acc ∧ Aside0 (acc = strB (rkTo s i)) ∧ Aside0 (Below w.heap.size w wr))
  case atStart => exact ⟨0, ⟨#[]⟩, rfl, by omega, rfl, ⟨rfl⟩, ⟨Below.refl _ _⟩⟩
  case round =>
    obtain ⟨i, acc, rfl, hi, rfl, HACC, HB⟩ := hrel
    cases gk with
    | zero =>
      have hn : ¬ ((i : Int) < (s.size : Int)) := by omega
      have HI := Aside0.mk (show i = s.size by omega)
      have hsz : acc.size = 9 := by rw [HACC.out, HI.out, strB_size, HLEN.out]
      clear hi
      go_wp2_with fail
      refine bodyPost_ret (v := .tuple #[.string acc, .bool true]) (by simp [results, Tryz.results55, go_sem, hsz]) rfl ?_
      exact ⟨by rw [HACC.out, HI.out], HB.out⟩
    | succ g =>
      have hn : (i : Int) < (s.size : Int) := by omega
      have hil : i < s.size := by omega
      have HI := Aside0.mk (show i + 1 + g = s.size by omega)
      have hx := letterN_lt (cel_lt s i)
      have HL := Aside0.mk (fun W => letter_c (cel s i) (cel_lt s i) W)
      have HS := Aside0.mk (fun W => rside_c (letterN (cel s i)) hx W)
      have hcase := HALL.out i hil
      have HST := Aside0.mk (rkTo_succ s i)
      have HAL := Aside0.mk (show acc.size ≤ 81 by rw [HACC.out, strB_size]; have := rkTo_len s i; have := H9.out; omega)
      have HR1 := Aside0.mk (show rkOne (cel s i) = if 49 ≤ letterN (cel s i) ∧ letterN (cel s i) ≤ 57 then List.replicate (letterN (cel s i) - 48) 46 else [letterN (cel s i)] from rfl)
      generalize rkOne (cel s i) = ro at *
      clear hi
      generalize letterN (cel s i) = x at *
      generalize rkTo s i = pre at *
      by_cases hd : 49 ≤ x ∧ x ≤ 57
      · have d0 : (49 : Int) ≤ (x : Int) := by omega
        have d1 : (x : Int) ≤ 57 := by omega
        have e1 : ((x : Int) - 48) % 256 = ((x - 48 : Nat) : Int) := by omega
        have HX9 := Aside0.mk (show x - 48 ≤ 9 by omega)
        have HRO := Aside0.mk (show ro = List.replicate (x - 48) 46 by rw [HR1.out, if_pos hd])
        clear hd hcase hx HR1
        generalize hk : x - 48 = kx at *
        clear hk
        go_wp2_with (go_at_call 91; refine (HL.out _).mono ?_; rintro e w1 ⟨rfl, rfl⟩)
        have hk9 : (kx : Int) ≤ 9 := by have := HX9.out; omega
        go_loopg [4, 7] kx (fun gg s4 s7 wr' => ∃ (j : Nat) (ac2 : ByteArray), s7 = .int .i64 j ∧ j + gg = kx ∧ s4 = .string ac2 ∧ Aside0 (ac2 = strB (pre ++ List.replicate j 46)) ∧ Aside0 (ac2.size ≤ 81 + j) ∧ wr' = w1)
        case atStart => exact ⟨0, acc, rfl, by omega, rfl, ⟨by rw [HACC.out]; simp⟩, ⟨HAL.out⟩, rfl⟩
        case round =>
          obtain ⟨j, ac2, rfl, hj, rfl, HA2, HZ2, rfl⟩ := hrel
          cases gk with
          | zero =>
            have hjn : ¬ ((j : Int) < (kx : Int)) := by omega
            have HJ := Aside0.mk (show j = kx by omega)
            clear hj
            go_wp2_with fail
            go_roundg g
            case measure => omega
            case rel => exact ⟨i + 1, ac2, by go_num, by have := HI.out; omega, rfl, ⟨by rw [HST.out, HRO.out, HA2.out, HJ.out]⟩, HB⟩
          | succ g2 =>
            have hjn : (j : Int) < (kx : Int) := by omega
            have HJ := Aside0.mk (show j + 1 + g2 = kx by omega)
            have hz2 : ac2.size ≤ 90 := by have := HZ2.out; have := HX9.out; omega
            have hz3 : (ac2 ++ ⟨#[46]⟩).size ≤ 81 + (j + 1) := by rw [ByteArray.size_append]; have := HZ2.out; show ac2.size + 1 ≤ _; omega
            have HZ3 := Aside0.mk hz3
            clear hj hz3
            go_wp2_with fail
            go_roundg g2
            case measure => omega
            case rel => exact ⟨j + 1, _, by go_num, by have := HJ.out; omega, rfl, ⟨by rw [HA2.out, strB_dot, List.replicate_succ', List.append_assoc]⟩, HZ3, rfl⟩
      · have hs0 : 0 ≤ sideN x := by rcases hcase with h | h; exact absurd h hd; exact h
        have HRO := Aside0.mk (show ro = [x] by rw [HR1.out, if_neg hd])
        have hz2 : acc.size ≤ 90 := by have := HAL.out; omega
        have kc := one_byte x
        have hsn : (strOfNums [(x : Int)]).size = 1 := by simp [strOfNums, ByteArray.size]
        generalize sideN x = sd at *
        have hd1 : (49 : Int) ≤ (x : Int) → ¬ ((x : Int) ≤ 57) := fun h h2 => hd ⟨by omega, by omega⟩
        clear hd hcase hx HR1
        by_cases hd2 : (49 : Int) ≤ (x : Int)
        case' pos => have hd3 : ¬ ((x : Int) ≤ 57) := hd1 hd2
        all_goals
          clear hd1
          go_wp2_with (first | (go_at_call 91; refine (HL.out _).mono ?_; rintro e w1 ⟨rfl, rfl⟩) | (go_at_call 29; refine (HS.out _).mono ?_; rintro e w2 ⟨rfl, rfl⟩) | (simp only [kc]))
          go_roundg g
          case measure => omega
          case rel => exact ⟨i + 1, _, by go_num, by have := HI.out; omega, rfl, ⟨by rw [HST.out, HRO.out, HACC.out, strB_snoc]⟩, ⟨below_new HB.out _⟩⟩
end Go.Proofs.YtdkghbbjillboaaGreatDoor.K

/- Walks: the reference's Cut, cells, Parse, at texts of two fields. -/
namespace Go.Proofs.YtdkghbbjillboaaGreatDoor.K
open Go.RowKit Go.Lib Go.Proofs.YtdkghbbjillboaaGreatDoorW.PrintWords Go.Proofs.YtdkghbbjillboaaGreatDoor.Sp
set_option linter.unusedVariables false
set_option linter.unusedSimpArgs false
attribute [local go_sem] cel_get   -- for this text's walks alone
/-- A row of texts of the call's own, from block B on. -/
def OwnT (W : World) (B : Nat) (v : Value) (l : List ByteArray) : Prop := W.ownsRow B 9 1 v l.length (l.map Value.string)
theorem OwnT.below {W W' : World} {B : Nat} {v : Value} {l : List ByteArray} (h : OwnT W B v l) (hb : Below W.heap.size W W') : OwnT W' B v l := pw_own_below h hb
theorem OwnT.lower {W : World} {B B' : Nat} {v : Value} {l : List ByteArray} (h : OwnT W B v l) (hb : B' ≤ B) : OwnT W B' v l := by
  obtain ⟨h1, h2 | ⟨g, cap, cur, h2, h3, h4⟩⟩ := h
  · exact ⟨h1, .inl h2⟩
  · exact ⟨h1, .inr ⟨g, cap, cur, h2, Nat.le_trans hb h3, h4⟩⟩
/-- Texts in a row, as they are read. -/
structure TxAt (W : World) (v : Value) (l : List ByteArray) : Prop where mk ::
  out : ∃ A cap, v = .slice A l.length cap ∧ (l = [] ∨ ∃ g, A = some ⟨g, 0, none⟩ ∧ g < W.heap.size ∧ ∀ i (h : i < l.length), W.cell? ⟨g, i, none⟩ = some (.string l[i]))
theorem TxAt.below {W W' : World} {v : Value} {l : List ByteArray} (h : TxAt W v l) (hb : Below W.heap.size W W') : TxAt W' v l := by
  obtain ⟨A, cap, hv, h⟩ := h.out
  refine ⟨A, cap, hv, ?_⟩
  rcases h with h | ⟨g, hA, hg, hx⟩
  · exact .inl h
  · exact .inr ⟨g, hA, Nat.lt_of_lt_of_le hg hb.size, fun i hi => (hb.cell (p := ⟨g, i, none⟩) hg).trans (hx i hi)⟩
theorem OwnT.reads {W : World} {B : Nat} {v : Value} {l : List ByteArray} (ho : OwnT W B v l) : TxAt W v l := by
  have ho' : W.ownsRow B 9 1 v l.length (l.map Value.string) := ho
  obtain ⟨hx, ⟨h0, h1⟩ | ⟨g, cap, cur, h0, hb, hg, hn, hc, hs, ht⟩⟩ := ho
  · exact ⟨none, 0, by rw [h0, h1], .inl (List.length_eq_zero_iff.1 h1)⟩
  · refine ⟨_, cap, h0, .inr ⟨g, rfl, blk_lt hg, ?_⟩⟩
    intro i hi
    have hc := ho'.cells (g := g) (by rw [h0]; rfl) i (.string l[i]) (by simp [hi])
    rwa [add_plain] at hc
theorem TxAt.at {W : World} {v : Value} {l : List ByteArray} (h : TxAt W v l) (hl : l ≠ []) : ∃ g cap, v = .slice (some ⟨g, 0, none⟩) l.length cap ∧ g < W.heap.size ∧ ∀ i (h : i < l.length), W.cell? ⟨g, i, none⟩ = some (.string l[i]) := by
  obtain ⟨A, cap, hv, h1 | ⟨g, rfl, h2⟩⟩ := h.out
  · exact absurd h1 hl
  · exact ⟨g, cap, hv, h2⟩
theorem info_string : (Tryz.prog.info? 9).map (fun i => (i.zero, i.size, i.bytes)) = some (some (.string ⟨#[]⟩), 1, 16) := by kernel_rfl
/-- A text cut at a byte: what is done after n bytes; and where the last piece begins. -/
def cutTo (s : ByteArray) (c : Nat) : Nat → List ByteArray × Nat
  | 0 => ([], 0)
  | n + 1 => if cel s n = c then ((cutTo s c n).1 ++ [s.extract (cutTo s c n).2 n], n + 1) else cutTo s c n
def cutS (s : ByteArray) (c : Nat) : List ByteArray := (cutTo s c s.size).1 ++ [s.extract (cutTo s c s.size).2 s.size]
theorem cutTo_le (s : ByteArray) (c n : Nat) : (cutTo s c n).2 ≤ n ∧ (cutTo s c n).1.length ≤ n := by
  induction n with
  | zero => simp [cutTo]
  | succ n ih =>
    unfold cutTo
    split
    · simp; omega
    · omega
structure CtAt (w0 W : World) (v : Value) (l : List ByteArray) : Prop where
  own : OwnT W w0.heap.size v l
  bel : Below w0.heap.size w0 W
theorem CtAt.below {w0 W W' : World} {v : Value} {l : List ByteArray} (h : CtAt w0 W v l) (hb : Below W.heap.size W W') : CtAt w0 W' v l := ⟨h.own.below hb, below_go h.bel hb⟩
theorem CtAt.grown {w0 W W1 : World} {v v1 : Value} {l l1 : List ByteArray} (h : CtAt w0 W v l) (hg : W.grownBy W1 v.ownBlock) (ho : OwnT W1 w0.heap.size v1 l1) : CtAt w0 W1 v1 l1 :=
  ⟨ho, h.bel.grown hg h.bel.size (fun k hk => (World.ownsRow.lt h.own k hk).1)⟩
set_option maxRecDepth 100000 in
set_option maxHeartbeats 4000000 in
theorem cut_c (s : ByteArray) (hs : s.size ≤ 1000) (c : Nat) (hc : c < 256) (w : World) : Calls Tryz.prog 25 #[.string s, .int .u8 (c : Int)] w fun e w' => ∃ v, e = .returned v ∧ OwnT w' w.heap.size v (cutS s c) ∧ Below w.heap.size w w' := by
  obtain ⟨i0, hi0, hx0⟩ := Option.map_eq_some_iff.1 info_string
  simp only [Prod.mk.injEq] at hx0
  have HZ := Aside0.mk (⟨hi0, hx0⟩ : _ ∧ _)
  have HSZ := Aside0.mk hs
  have hsz : (s.size : Int) ≤ 1000 := by omega
  clear hx0 hi0 hs
  go_enter Tryz.func25, Tryz.ntmps25
  go_wp2_with fail
  go_loopg [5, 6, 7] s.size (fun gg s5 s6 s7 wr => ∃ i a : Nat, s7 = .int .i64 i ∧ s6 = .int .i64 a ∧ i + gg = s.size ∧ Aside0 (a = (cutTo s c i).2) ∧ Aside0 (CtAt w wr s5 (cutTo s c i).1))
  case atStart => exact ⟨0, 0, rfl, rfl, by omega, ⟨rfl⟩, ⟨⟨own_nil _ _ _ _, Below.refl _ _⟩⟩⟩
  case round =>
    obtain ⟨i, a, rfl, rfl, hi, HA, HG⟩ := hrel
    have HLE := Aside0.mk (cutTo_le s c i)
    have hai : a ≤ i := by rw [HA.out]; exact HLE.out.1
    cases gk with
    | zero =>
      have hn : ¬ ((i : Int) < (s.size : Int)) := by omega
      have HI := Aside0.mk (show i = s.size by omega)
      have ha0 : (a : Int) ≤ (s.size : Int) := by omega
      have HLN := Aside0.mk (show (cutTo s c i).1.length ≤ 1000 by have := HLE.out.2; have := HI.out; have := HSZ.out; omega)
      have HCS := Aside0.mk (show cutS s c = (cutTo s c i).1 ++ [s.extract a s.size] by unfold cutS; rw [HA.out, HI.out])
      generalize (cutTo s c i).1 = L at *
      clear hi hai
      go_wp2_with (at_builtin; refine hold ?_)
      refine Hold.go ?_
      refine wpList_append_lies _ (by rfl) _ _ _ (by rfl) w.heap.size 9 i0 _ 1 16 Tryz.underlying40 HZ.out.1 HZ.out.2.1 HZ.out.2.2.1 HZ.out.2.2.2 rfl (by omega) _ L.length (L.map Value.string) (by rfl) (HG.out.own.below (below_alloc (Below.refl _ _) _)) ⟨_, 0, none⟩ 1 1 [.string (s.extract a s.size)] (by rfl) (by rfl) (World.news_of_block (cs := #[.string (s.extract a s.size)]) (t := 9) (fr := (0, 0)) (news_own _ _)) (by simp [Value.oneCell']) (by omega) (by have := HLN.out; unfold maxLen; omega) (by have := HLN.out; omega) (by have := HG.out.bel.size; simp; omega) _ rfl ?_
      intro gg cap1 w1 hown1 hgrow hat hlt1
      have HO := Aside0.mk (show CtAt w w1 (.slice (some ⟨gg, 0, none⟩) (L.length + 1) cap1) (L ++ [s.extract a s.size]) from (HG.out.below (below_alloc (Below.refl _ _) _)).grown hgrow (by unfold OwnT; rw [List.map_append, List.length_append]; exact hown1))
      clear hown1 hgrow hat hlt1
      go_wp2_with fail
      go_ret
      exact ⟨_, rfl, by rw [HCS.out]; exact HO.out.own, HO.out.bel⟩
    | succ g =>
      have hn : (i : Int) < (s.size : Int) := by omega
      have hil : i < s.size := by omega
      have HI := Aside0.mk (show i + 1 + g = s.size by omega)
      have hq : (((cel s i : Nat) : Int) == (c : Int)) = (cel s i == c) := eqK _ _
      have HST := Aside0.mk (show cutTo s c (i + 1) = if cel s i = c then ((cutTo s c i).1 ++ [s.extract (cutTo s c i).2 i], i + 1) else cutTo s c i from rfl)
      have HLN := Aside0.mk (show (cutTo s c i).1.length ≤ 1000 by have := HLE.out.2; have := HI.out; have := HSZ.out; omega)
      clear hi
      cases hcc : (cel s i == c)
      case false =>
        rw [hcc] at hq
        have HN := Aside0.mk (show cutTo s c (i + 1) = cutTo s c i by rw [HST.out, if_neg (by simpa using hcc)])
        clear hcc HST
        go_wp2_with fail
        go_roundg g
        case measure => omega
        case rel => exact ⟨i + 1, a, by go_num, rfl, by have := HI.out; omega, ⟨by rw [HN.out]; exact HA.out⟩, ⟨by rw [HN.out]; exact HG.out⟩⟩
      case true =>
        rw [hcc] at hq
        have HN := Aside0.mk (show cutTo s c (i + 1) = ((cutTo s c i).1 ++ [s.extract a i], i + 1) by rw [HST.out, if_pos (by simpa using hcc), HA.out])
        have ha0 : (a : Int) ≤ (i : Int) := by omega
        have hn2 : (i : Int) ≤ (s.size : Int) := by omega
        have hil2 : i ≤ s.size := by omega
        clear hcc HST HA
        generalize (cutTo s c i).1 = L at *
        go_wp2_with (at_builtin; refine hold ?_)
        refine Hold.go ?_
        refine wpList_append_lies _ (by rfl) _ _ _ (by rfl) w.heap.size 9 i0 _ 1 16 Tryz.underlying40 HZ.out.1 HZ.out.2.1 HZ.out.2.2.1 HZ.out.2.2.2 rfl (by omega) _ L.length (L.map Value.string) (by rfl) (HG.out.own.below (below_alloc (Below.refl _ _) _)) ⟨_, 0, none⟩ 1 1 [.string (s.extract a i)] (by rfl) (by rfl) (World.news_of_block (cs := #[.string (s.extract a i)]) (t := 9) (fr := (0, 0)) (news_own _ _)) (by simp [Value.oneCell']) (by omega) (by have := HLN.out; unfold maxLen; omega) (by have := HLN.out; omega) (by have := HG.out.bel.size; simp; omega) _ rfl ?_
        intro gg cap1 w1 hown1 hgrow hat hlt1
        have HO := Aside0.mk (show CtAt w w1 (.slice (some ⟨gg, 0, none⟩) (L.length + 1) cap1) (L ++ [s.extract a i]) from (HG.out.below (below_alloc (Below.refl _ _) _)).grown hgrow (by unfold OwnT; rw [List.map_append, List.length_append]; exact hown1))
        clear hown1 hgrow hat hlt1 HG
        go_wp2_with fail
        go_roundg g
        case measure => omega
        case rel => exact ⟨i + 1, i + 1, by go_num, by go_num, by have := HI.out; omega, ⟨by rw [HN.out]⟩, ⟨by rw [HN.out]; exact HO.out⟩⟩
/-- The squares of a board's text, rank by rank, the last ones first: after m of the ten. -/
def celTo (l : List ByteArray) (m : Nat) : List Nat := (List.range m).flatMap (fun j => rkTo (l.getD (9 - j) ⟨#[]⟩) (l.getD (9 - j) ⟨#[]⟩).size)
theorem celTo_succ (l : List ByteArray) (m : Nat) : celTo l (m + 1) = celTo l m ++ rkTo (l.getD (9 - m) ⟨#[]⟩) (l.getD (9 - m) ⟨#[]⟩).size := by
  unfold celTo; rw [List.range_succ, List.flatMap_append]; simp
theorem strB_append (a b : List Nat) : strB a ++ strB b = strB (a ++ b) := by
  apply ByteArray.ext
  rw [ByteArray.data_append]
  simp [strB]
theorem rkOk_len {s : ByteArray} (h : rkOk s = true) : (rkTo s s.size).length = 9 := by
  unfold rkOk at h
  simp only [Bool.and_eq_true, beq_iff_eq] at h
  exact h.2.2
theorem celTo_len (l : List ByteArray) (hl : l.length = 10) (h : ∀ x ∈ l, rkOk x = true) (m : Nat) (hm : m ≤ 10) : (celTo l m).length = 9 * m := by
  induction m with
  | zero => simp [celTo]
  | succ m ih =>
    rw [celTo_succ, List.length_append, ih (by omega)]
    have hi : 9 - m < l.length := by omega
    have hg : l.getD (9 - m) ⟨#[]⟩ = l[9 - m] := by simp [List.getD_eq_getElem?_getD, hi]
    rw [hg, rkOk_len (h _ (List.getElem_mem hi))]
    omega
set_option maxRecDepth 100000 in
set_option maxHeartbeats 4000000 in
theorem cells4_c (s : ByteArray) (hs : s.size ≤ 1000) (l : List ByteArray) (hcut : cutS s 47 = l) (hl : l.length = 10) (hok : ∀ x ∈ l, rkOk x = true) (w : World) :
    Calls Tryz.prog 26 #[.string s] w fun e w' => e = .returned (.tuple #[.string (strB (celTo l 10)), .bool true]) ∧ Below w.heap.size w w' := by
  have HC := Aside0.mk (fun W => cut_c s hs 47 (by omega) W)
  rw [hcut] at HC
  have HOK := Aside0.mk hok
  have HLN := Aside0.mk (fun m hm => celTo_len l hl hok m hm)
  have HL := Aside0.mk hl
  clear hs hcut hl hok
  go_enter Tryz.func26, Tryz.ntmps26
  go_wp2_with fail
  refine (HC.out _).mono ?_
  rintro e w1 ⟨v, rfl, ho, hb⟩
  have HB := Aside0.mk hb
  have HT := Aside0.mk ho.reads
  clear ho hb
  obtain ⟨g0, cap0, rfl, _, _⟩ := HT.out.at (fun h => by have := HL.out; rw [h] at this; simp at this)
  rw [HL.out]
  go_wp2_with fail
  go_loopg [5, 6, 7, 8] 10 (fun gg s5 s6 _ _ wr => ∃ (m : Nat) (acc : ByteArray), m = gg ∧ m ≤ 10 ∧ s6 = .int .i64 ((m : Int) - 1) ∧ s5 = .string acc ∧ Aside0 (acc = strB (celTo l (10 - m))) ∧ Aside0 (TxAt wr (.slice (some ⟨g0, 0, none⟩) l.length cap0) l) ∧ Aside0 (Below w.heap.size w wr))
  case atStart => exact ⟨10, ⟨#[]⟩, rfl, by omega, rfl, rfl, ⟨rfl⟩, HT, HB⟩
  case round =>
    clear HT HB
    obtain ⟨m, acc, rfl, hm, rfl, rfl, HACC, HT, HB⟩ := hrel
    cases m with
    | zero =>
      have hn : ¬ (0 ≤ ((0 : Nat) : Int) - 1) := by omega
      go_wp2_with fail
      refine bodyPost_ret (v := .tuple #[.string acc, .bool true]) (by simp [results, Tryz.results26, go_sem]) rfl ?_
      exact ⟨by rw [HACC.out], HB.out⟩
    | succ g =>
      have hg : ((g + 1 : Nat) : Int) - 1 = (g : Int) := by omega
      rw [hg]
      have hn : 0 ≤ (g : Int) := by omega
      have hg10 : (g : Int) < 10 := by omega
      have hgl : g < l.length := by rw [HL.out]; omega
      have hx := HT.out
      obtain ⟨g1, cap1, hA, _, hcell⟩ := hx.at (fun h => by rw [h] at hgl; simp at hgl)
      simp only [Value.slice.injEq, Option.some.injEq, Addr.mk.injEq, true_and, and_true] at hA
      obtain ⟨rfl, rfl⟩ := hA
      have c0 := hcell g hgl
      have hrk := HOK.out _ (List.getElem_mem hgl)
      have HR := Aside0.mk (fun W => rank4_c l[g] hrk W)
      have HST := Aside0.mk (show celTo l (10 - g) = celTo l (10 - (g + 1)) ++ rkTo l[g] l[g].size by
        have := celTo_succ l (10 - (g + 1))
        rw [show 10 - (g + 1) + 1 = 10 - g by omega, show 9 - (10 - (g + 1)) = g by omega, show l.getD g ⟨#[]⟩ = l[g] by simp [List.getD_eq_getElem?_getD, hgl]] at this
        exact this)
      have hz1 : acc.size ≤ 90 := by rw [HACC.out, strB_size, HLN.out _ (by omega)]; omega
      have hz2 : (strB (rkTo l[g] l[g].size)).size = 9 := by rw [strB_size, rkOk_len hrk]
      have HG := Aside0.mk hm
      generalize l[g] = lg at *
      generalize hrr : rkTo lg lg.size = rr at *
      have HRR := Aside0.mk hrr
      generalize hsr : strB rr = sr at *
      have HSR := Aside0.mk hsr
      clear hrr hsr hrk hcell hx hgl hg hm
      go_wp2_with fail
      refine (HR.out _).mono ?_
      rintro e w2 ⟨rfl, hb⟩
      have HT2 := Aside0.mk (HT.out.below hb)
      have HB2 := Aside0.mk (below_go HB.out hb)
      clear hb HT HB c0
      go_wp2_with fail
      go_roundg g
      case measure => omega
      case rel => exact ⟨g, _, rfl, by have := HG.out; omega, by first | rfl | rw [show wrap64 ((g : Int) - 1) = (g : Int) - 1 by have := HG.out; unfold wrap64; omega], rfl, ⟨by rw [HST.out, HACC.out, ← HSR.out, strB_append]⟩, HT2, HB2⟩
/-- The result's box. -/
structure ZeAt (w0 W : World) : Prop where
  r0 : W.cell? ⟨w0.heap.size, 0, none⟩ = some (.string ByteArray.empty)
  r1 : W.cell? ⟨w0.heap.size, 1, none⟩ = some (.int .i64 0)
  r2 : W.cell? ⟨w0.heap.size, 2, none⟩ = some (.int .i64 0)
  r3 : W.cell? ⟨w0.heap.size, 3, none⟩ = some (.int .i64 0)
  fr : ∀ k, W.frozen? ⟨w0.heap.size, k, none⟩ = false
  bel : Below w0.heap.size w0 W
  lt : w0.heap.size < W.heap.size
theorem ZeAt.below {w0 W W' : World} (h : ZeAt w0 W) (hb : Below W.heap.size W W') : ZeAt w0 W' :=
  ⟨below_cell hb _ _ _ h.r0, below_cell hb _ _ _ h.r1, below_cell hb _ _ _ h.r2, below_cell hb _ _ _ h.r3, fun k => (hb.frozen (p := ⟨w0.heap.size, k, none⟩) h.lt).trans (h.fr k), below_go h.bel hb, Nat.lt_of_lt_of_le h.lt hb.size⟩
theorem ZeAt.new (w : World) : ZeAt w (w.alloc (.cells #[.string ByteArray.empty, .int .i64 0, .int .i64 0, .int .i64 0] 23)) :=
  ⟨by simp [World.cell?_alloc_at], by simp [World.cell?_alloc_at], by simp [World.cell?_alloc_at], by simp [World.cell?_alloc_at], fun k => World.frozen?_alloc_at _ _ _ k rfl, below_alloc (Below.refl _ _) _, by simp⟩
set_option maxRecDepth 100000 in
set_option maxHeartbeats 4000000 in
theorem parse_c (s : ByteArray) (hs : s.size ≤ 1000) (a : ByteArray) (hcut : cutS s 32 = [a, ⟨#[119]⟩]) (ha : a.size ≤ 1000) (l : List ByteArray) (hcut2 : cutS a 47 = l) (hl : l.length = 10) (hok : l.all rkOk = true) (b : ByteArray) (hb : strB (celTo l 10) = b) (hck : checkP ⟨b, 0, 0, 1⟩ = 0) (w : World) :
    Calls Tryz.prog 14 #[.string s] w fun e w' => e = .returned (.tuple #[posV ⟨b, 0, 0, 1⟩, .int .i64 0]) ∧ Below w.heap.size w w' := by
  have HC := Aside0.mk (fun W => cut_c s hs 32 (by omega) W)
  rw [hcut] at HC
  have HCL := Aside0.mk (fun W => cells4_c a ha l hcut2 hl (List.all_eq_true.1 hok) W)
  rw [hb] at HCL
  have hbd := board_size (argOk_yes (checkP_board hck)).1
  have HCK := Aside0.mk (fun W => rcheck_c ⟨b, 0, 0, 1⟩ (by show b.size ≤ _; rw [show b.size = 90 from hbd]; unfold maxLen; omega) W)
  rw [hck] at HCK
  have hu := Tryz.underlying23
  have hs1 : (s.size : Int) ≤ 1000 := by omega
  have HZ := Aside0.mk (ZeAt.new w)
  clear hs hcut ha hcut2 hl hok hb hck hbd
  go_enter Tryz.func14, Tryz.ntmps14
  go_wp2_with fail
  refine (HC.out _).mono ?_
  rintro e w1 ⟨v, rfl, ho, hb⟩
  have HZ1 := Aside0.mk ((HZ.out.below (below_alloc (Below.refl _ _) _)).below hb)
  have HT := Aside0.mk ho.reads
  clear ho hb HZ
  obtain ⟨g0, cap0, rfl, _, hc⟩ := HT.out.at (by simp)
  have c0 : w1.cell? ⟨g0, 0, none⟩ = some (.string a) := hc 0 (by simp)
  clear hc
  go_wp2_with fail
  refine (HCL.out _).mono ?_
  rintro e w2 ⟨rfl, hb⟩
  have HZ2 := Aside0.mk ((HZ1.out.below hb).below (below_alloc (Below.refl _ _) (.cells #[.string b, .int .i64 0, .int .i64 0, .int .i64 1] 23)))
  have HT2 := Aside0.mk ((HT.out.below hb).below (below_alloc (Below.refl _ _) (.cells #[.string b, .int .i64 0, .int .i64 0, .int .i64 1] 23)))
  have HQ := Aside0.mk (BoxP.new w2 ⟨b, 0, 0, 1⟩)
  have hn2 : w2.heap.size ≠ w.heap.size := World.new_ne w2 _ (HZ1.out.below hb).r0
  clear hb HT HZ1 c0
  go_upto_region 9 with fail
  generalize w2.heap.size = qb at *
  generalize (w2.alloc (.cells #[.string b, .int .i64 0, .int .i64 0, .int .i64 1] 23)) = w3 at *
  obtain ⟨g1, cap1, hA, _, hc⟩ := HT2.out.at (by simp)
  simp only [Value.slice.injEq, Option.some.injEq, Addr.mk.injEq, true_and, and_true] at hA
  obtain ⟨rfl, rfl⟩ := hA
  have c1 : w3.cell? ⟨g0, 1, none⟩ = some (.string ⟨#[119]⟩) := hc 1 (by simp)
  obtain ⟨q0, q1, q2, q3⟩ := HQ.out
  clear hc
  go_wp2_with fail
  refine (HCK.out _).mono ?_
  rintro e w4 ⟨rfl, hb⟩
  have HZ4 := Aside0.mk (HZ2.out.below hb)
  clear q0 q1 q2 q3
  obtain ⟨q0, q1, q2, q3⟩ := HQ.out.below hb
  clear hb HZ2 HT2 c1
  have fr := HZ4.out.fr
  have r0 := HZ4.out.r0
  have r1 := HZ4.out.r1
  have r2 := HZ4.out.r2
  have r3 := HZ4.out.r3
  go_wp2_with fail
  refine bodyPost_ret (by simp [results, Tryz.results14, go_sem, r0, r1, r2, r3]; try rfl) rfl ?_
  exact ⟨rfl, by (repeat' (first | (with_reducible exact Below.refl _ _) | (with_reducible refine pw_below_drewN ?_ _) | (with_reducible refine below_alloc ?_ _) | (with_reducible refine Below.drew ?_) | (with_reducible refine Below.setCell ?_ ?_ _) | (simp; done))) <;> first | exact HZ4.out.bel | (simp; done) | (simp; omega)⟩
end Go.Proofs.YtdkghbbjillboaaGreatDoor.K

/- The pseudo laws' live: some answers, by the contracts and the kernel's reckoning. -/
namespace Go.Proofs.YtdkghbbjillboaaGreatDoor.K
open Go.RowKit Go.Lib Go.Proofs.YtdkghbbjillboaaGreatDoorW.PrintWords Go.Proofs.YtdkghbbjillboaaGreatDoor.Sp
set_option linter.unusedVariables false
set_option linter.unusedSimpArgs false
abbrev startB : ByteArray := ⟨#[82, 78, 66, 65, 75, 65, 66, 78, 82, 46, 46, 46, 46, 46, 46, 46, 46, 46, 46, 67, 46, 46, 46, 46, 46, 67, 46, 80, 46, 80, 46, 80, 46, 80, 46, 80, 46, 46, 46, 46, 46, 46, 46, 46, 46, 46, 46, 46, 46, 46, 46, 46, 46, 46, 112, 46, 112, 46, 112, 46, 112, 46, 112, 46, 99, 46, 46, 46, 46, 46, 99, 46, 46, 46, 46, 46, 46, 46, 46, 46, 46, 114, 110, 98, 97, 107, 97, 98, 110, 114]⟩
abbrev startP : Pos := ⟨startB, 0, 0, 1⟩
theorem start_moves : (gathP startP (fun _ => true)).length = 44 ∧ (gathP startP (fun _ => true))[0]? = some (0, 9) ∧ (gathP startP (fun x => x != 46)).length = 2 := by decide +kernel
theorem start_apply : (applyP startP ⟨19, 82⟩).1.side = 1 ∧ (applyP startP ⟨19, 82⟩).1.clock = 0 ∧ (applyP startP ⟨19, 82⟩).1.full = 1 ∧ (applyP startP ⟨19, 82⟩).2 = (110, 0) ∧ (applyP startP ⟨0, 90⟩).2.2 = 7 ∧ (applyP zeroP ⟨0, 0⟩).2.2 = 1 := by decide +kernel
end Go.Proofs.YtdkghbbjillboaaGreatDoor.K

/- The texts and boards of the laws' live: read, and as numbers. -/
namespace Go.Proofs.YtdkghbbjillboaaGreatDoor.K
open Go.RowKit Go.Lib Go.Proofs.YtdkghbbjillboaaGreatDoorW.PrintWords Go.Proofs.YtdkghbbjillboaaGreatDoor.Sp
set_option linter.unusedVariables false
set_option linter.unusedSimpArgs false
abbrev mateT : ByteArray := ⟨#[51, 107, 53, 47, 57, 47, 57, 47, 57, 47, 57, 47, 57, 47, 57, 47, 57, 47, 51, 114, 53, 47, 114, 51, 75, 52, 32, 119]⟩
abbrev mateF : ByteArray := ⟨#[51, 107, 53, 47, 57, 47, 57, 47, 57, 47, 57, 47, 57, 47, 57, 47, 57, 47, 51, 114, 53, 47, 114, 51, 75, 52]⟩
abbrev mateB : ByteArray := ⟨#[114, 46, 46, 46, 75, 46, 46, 46, 46, 46, 46, 46, 114, 46, 46, 46, 46, 46, 46, 46, 46, 46, 46, 46, 46, 46, 46, 46, 46, 46, 46, 46, 46, 46, 46, 46, 46, 46, 46, 46, 46, 46, 46, 46, 46, 46, 46, 46, 46, 46, 46, 46, 46, 46, 46, 46, 46, 46, 46, 46, 46, 46, 46, 46, 46, 46, 46, 46, 46, 46, 46, 46, 46, 46, 46, 46, 46, 46, 46, 46, 46, 46, 46, 46, 107, 46, 46, 46, 46, 46]⟩
abbrev mateP : Pos := ⟨mateB, 0, 0, 1⟩
theorem mate_parts : cutS mateT 32 = [mateF, ⟨#[119]⟩] ∧ (cutS mateF 47).length = 10 ∧ (cutS mateF 47).all rkOk = true ∧ strB (celTo (cutS mateF 47) 10) = mateB ∧ checkP mateP = 0 := by decide +kernel
theorem mate_parse (w : World) : Calls Tryz.prog 14 #[.string mateT] w fun e w' => e = .returned (.tuple #[posV mateP, .int .i64 0]) ∧ Below w.heap.size w w' := by
  obtain ⟨h1, h2, h3, h4, h5⟩ := mate_parts
  exact parse_c mateT (by decide) mateF h1 (by decide) _ rfl h2 h3 _ h4 h5 w
abbrev staleT : ByteArray := ⟨#[53, 107, 51, 47, 57, 47, 57, 47, 57, 47, 57, 47, 57, 47, 57, 47, 57, 47, 51, 114, 53, 47, 52, 75, 52, 32, 119]⟩
abbrev staleF : ByteArray := ⟨#[53, 107, 51, 47, 57, 47, 57, 47, 57, 47, 57, 47, 57, 47, 57, 47, 57, 47, 51, 114, 53, 47, 52, 75, 52]⟩
abbrev staleB : ByteArray := ⟨#[46, 46, 46, 46, 75, 46, 46, 46, 46, 46, 46, 46, 114, 46, 46, 46, 46, 46, 46, 46, 46, 46, 46, 46, 46, 46, 46, 46, 46, 46, 46, 46, 46, 46, 46, 46, 46, 46, 46, 46, 46, 46, 46, 46, 46, 46, 46, 46, 46, 46, 46, 46, 46, 46, 46, 46, 46, 46, 46, 46, 46, 46, 46, 46, 46, 46, 46, 46, 46, 46, 46, 46, 46, 46, 46, 46, 46, 46, 46, 46, 46, 46, 46, 46, 46, 46, 107, 46, 46, 46]⟩
abbrev staleP : Pos := ⟨staleB, 0, 0, 1⟩
theorem stale_parts : cutS staleT 32 = [staleF, ⟨#[119]⟩] ∧ (cutS staleF 47).length = 10 ∧ (cutS staleF 47).all rkOk = true ∧ strB (celTo (cutS staleF 47) 10) = staleB ∧ checkP staleP = 0 := by decide +kernel
theorem stale_parse (w : World) : Calls Tryz.prog 14 #[.string staleT] w fun e w' => e = .returned (.tuple #[posV staleP, .int .i64 0]) ∧ Below w.heap.size w w' := by
  obtain ⟨h1, h2, h3, h4, h5⟩ := stale_parts
  exact parse_c staleT (by decide) staleF h1 (by decide) _ rfl h2 h3 _ h4 h5 w
abbrev startN : Nat := 1868396417696219742832486546452904002272599990723053606518375936556489058356868476713422886370221736333484869
abbrev mateN : Nat := 1119872371088902105278721140284222139060822748617324767449994550481895935590080472690442124335524151308
abbrev staleN : Nat := 286687326998758938951352611912760867599570623646035140467198604923365359511060601008752322516465431412736
theorem start_on : OnB startB (celQ startN) := ⟨by decide +kernel, by
  have h : ∀ n : Fin 90, cel startB n.1 = celQ startN n.1 := by decide +kernel
  exact fun n hn => h ⟨n, hn⟩⟩
theorem mate_on : OnB mateB (celQ mateN) := ⟨by decide +kernel, by
  have h : ∀ n : Fin 90, cel mateB n.1 = celQ mateN n.1 := by decide +kernel
  exact fun n hn => h ⟨n, hn⟩⟩
theorem stale_on : OnB staleB (celQ staleN) := ⟨by decide +kernel, by
  have h : ∀ n : Fin 90, cel staleB n.1 = celQ staleN n.1 := by decide +kernel
  exact fun n hn => h ⟨n, hn⟩⟩
theorem start_well : wellS startP = 0 := by decide +kernel
theorem mate_well : wellS mateP = 0 := by decide +kernel
theorem stale_well : wellS staleP = 0 := by decide +kernel
def startM : List Mv := [(0, 9), (0, 18), (1, 18), (1, 20), (2, 18), (2, 22), (3, 13), (4, 13), (5, 13), (6, 22), (6, 26), (7, 24), (7, 26), (8, 17), (8, 26), (19, 10), (19, 18), (19, 20), (19, 21), (19, 22), (19, 23), (19, 24), (19, 28), (19, 37), (19, 46), (19, 55), (19, 82), (25, 16), (25, 20), (25, 21), (25, 22), (25, 23), (25, 24), (25, 26), (25, 34), (25, 43), (25, 52), (25, 61), (25, 88), (27, 36), (29, 38), (31, 40), (33, 42), (35, 44)]
theorem start_list : legalL startP = startM := by
  rw [legal_eq start_well, legal_C start_on 0 (.inl rfl)]
  decide +kernel
theorem start_legal : (legalL startP).length = 44 := by rw [start_list]; rfl
end Go.Proofs.YtdkghbbjillboaaGreatDoor.K

/- Plain law of quiet: reckoned by the kernel. -/
namespace Go.Proofs.YtdkghbbjillboaaGreatDoor.K
open Go.RowKit Go.Lib Go.Proofs.YtdkghbbjillboaaGreatDoorW.PrintWords Go.Proofs.YtdkghbbjillboaaGreatDoor.Sp
set_option linter.unusedVariables false
set_option linter.unusedSimpArgs false
def valC (c : Nat → Nat) (a : Int) : Int := sumV (fun n => ownV a (c n) n) 90
theorem val_C {s : ByteArray} {c : Nat → Nat} (h : OnB s c) (a : Int) : valS s a = valC c a :=
  sumV_congr (fun i hi => by rw [h.at_ i hi])
def quietQ : Nat → (Nat → Nat) → Int → Int
  | 0, _, _ => 0
  | k + 1, c, a => if (legalQ c a).isEmpty = true then -10000 else bestF (fun m => - quietQ k (moveC c m.1 m.2) (1 - a)) (valC c a) ((legalQ c a).filter (fun m => c m.2 != 46))
theorem quiet_C : ∀ (k : Nat) {s : ByteArray} {c : Nat → Nat} (h : OnB s c) (a : Int), (a = 0 ∨ a = 1) → quietF k s a = quietQ k c a
  | 0, _, _, _, _, _ => rfl
  | k + 1, s, c, h, a, ha => by
    unfold quietF quietQ
    have e1 := legal_C h a ha
    by_cases he : legalR s a = []
    · rw [if_pos he, if_pos (by rw [← e1, he]; rfl)]
    · rw [if_neg he, if_neg (by rw [← e1]; simpa using he), val_C h, ← e1]
      have e2 : takeL s (legalR s a) = (legalR s a).filter (fun m => c m.2 != 46) := by
        refine List.filter_congr (fun m hm => ?_)
        have h2 := (gathM_mem (Nat.le_refl 90) (List.mem_filter.1 hm).1).2
        rw [h.at_ _ h2]
      rw [← e2]
      refine bestF_congr _ (fun m hm => ?_) _
      have hm2 := (List.mem_filter.1 hm).1
      obtain ⟨h1, h2⟩ := gathM_mem (Nat.le_refl 90) (List.mem_filter.1 hm2).1
      show - quietF k (movedB s m.1 m.2) (1 - a) = - quietQ k (moveC c m.1 m.2) (1 - a)
      rw [quiet_C k (h.moved h1 h2) (1 - a) (by omega)]
theorem quietP_C {p : Pos} {c : Nat → Nat} (h : OnB p.cells c) (ha : p.side = 0 ∨ p.side = 1) (hw : wellS p = 0) {k : Nat} (hk : nP p.cells ≤ k) : quietP p = quietQ (k + 1) c p.side := by
  rw [← quietP_deep hw hk]
  exact quiet_C (k + 1) h p.side ha
end Go.Proofs.YtdkghbbjillboaaGreatDoor.K
