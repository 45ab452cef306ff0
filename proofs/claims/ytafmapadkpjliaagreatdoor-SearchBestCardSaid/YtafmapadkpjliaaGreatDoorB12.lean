/- Walks and plain laws that several statements lean on, joined: no statement of the seat is proved here. -/
import Derived.Deep.Cut
import Derived.Test.YtafmapadkpjliaaGreatDoorB11
import Derived.Test.YtafmapadkpjliaaGreatDoorB5

/- search: within, a round and the whole. -/
namespace Go.Proofs.YtafmapadkpjliaaGreatDoor.K
open Go.RowKit Go.Lib Go.Proofs.YtafmapadkpjliaaGreatDoorW.PrintWords Go.Proofs.YtafmapadkpjliaaGreatDoorW.PrintLast Go.Proofs.YtafmapadkpjliaaGreatDoorW.PrintMore Go.Proofs.YtafmapadkpjliaaGreatDoor.Sp
set_option linter.unusedVariables false
set_option linter.unusedSimpArgs false
section
variable (p : Pos) (d k : Nat) (low high : Int) (fb tb sb c : Nat) (left : Int) (W : World)
set_option maxRecDepth 100000 in
set_option maxHeartbeats 8000000 in
theorem wth_next (IH : WthC d) (hw : wellS p = 0) (h9 : nP p.cells ≤ 9) (hk : k + (d + 1) ≤ 100) (h1 : -1073741824 ≤ low) (h2 : low ≤ high) (h3 : high ≤ 1073741824) (hl1 : (lookN 810 (d + 1) : Int) ≤ left + 1099511627776) (hl2 : left ≤ 2147483648) (hcl : (c : Int) + left ≤ 1152921504606846976)
    (hf : FinAt W fb tb sb c left) (hT : TabW W) (hno : legalL p ≠ []) (hc : ¬ (p.clock = 120 ∧ 0 < k)) :
    Calls Tryz.prog 23 #[.pointer (some ⟨fb, 0, none⟩), posV p, .int .i64 ((d : Int) + 1), .int .i64 (k : Int), .int .i64 low, .int .i64 high] W (WthIs p (d + 1) k low high fb tb sb c left W) := by
  have hck := well_check hw
  obtain ⟨hbd, hsd, _⟩ := argOk_yes (checkP_parts hck).1
  have HT := Aside0.mk (fun (W' : World) (hb : Ken (FinS fb tb sb) W W') => tabW_ken hT hb hf.gS)
  have HM := Aside0.mk (fun (W : World) (hT : TabW W) => lmoves_c p W hT)
  have HMK := Aside0.mk (fun (m : Mvi) (W : World) (hT : TabW W) => make_c p m W hT)
  have HF := Aside0.mk (fun (m : Mv) (hm : m ∈ legalL p) => show ∃ q cq, makeP p (mviOf m) = (q, cq, 0) ∧ wellS q = 0 ∧ nP q.cells ≤ 9 ∧ moveW p d k m = - worthS d q.cells q.side q.clock (k + 1) by
    obtain ⟨q, cq, e1, e2, e3, e4, e5⟩ := legal_step8 hm
    exact ⟨q, cq, e1, e2, Nat.le_trans (step_few e3) h9, step_worth d k hm e1⟩)
  have HN := Aside0.mk (show (legalL p).length ≤ 810 by
    have := legalR_few hw
    rw [legal_eq hw]; omega)
  have HWB := Aside0.mk (fun (ys : List Mv) (hp : ys.Perm (legalL p)) => show worthS (d + 1) p.cells p.side p.clock k = bestF (moveW p d k) (-1073741824) ys from worth_best (by omega) (by rw [← legal_eq hw]; exact hno) hc (by rw [← legal_eq hw]; exact hp))
  have HIH := Aside0.mk (fun (q : Pos) (lo hi : Int) (c : Nat) (left : Int) (W : World) (hwq : wellS q = 0) (hq9 : nP q.cells ≤ 9) (a1 : -1073741824 ≤ lo) (a2 : lo ≤ hi) (a3 : hi ≤ 1073741824) (a4 : (lookN 810 d : Int) ≤ left + 1099511627776) (a5 : left ≤ 2147483648) (a6 : (c : Int) + left ≤ 1152921504606846976) (a7 : FinAt W fb tb sb c left) (a8 : TabW W) =>
    show Calls Tryz.prog 23 #[.pointer (some ⟨fb, 0, none⟩), posV q, .int .i64 (d : Int), .int .i64 ((k : Int) + 1), .int .i64 lo, .int .i64 hi] W (WthIs q d (k + 1) lo hi fb tb sb c left W) from IH q (k + 1) lo hi fb tb sb c left W hwq hq9 (by omega) a1 a2 a3 a4 a5 a6 a7 a8)
  have HM90 := fun (m : Mv) (hm : m ∈ legalL p) => show m.1 < 90 ∧ m.2 < 90 by rw [legal_eq hw] at hm; exact gathM_mem (Nat.le_refl _) (List.mem_filter.1 hm).1
  have H90 := Aside0.mk HM90
  have HORD := Aside0.mk (fun (base b cap c : Nat) (left : Int) (W : World) (a1 : FinAt W fb tb sb c left) (a2 : W.ownsRow base 36 2 (.slice (some ⟨b, 0, none⟩) (legalL p).length cap) (legalL p).length (flatM (legalL p))) (a3 : b < W.heap.size) => order_c p hbd fb tb sb c left base b cap (legalL p) W a1 a2 a3 (fun m hm => (HM90 m hm).2) (legal_len2 p))
  have HKO := Aside0.mk (fun W => kof_c p hbd W)
  have HW0 := Aside0.mk (WfAt.start hf p)
  have HNE := Aside0.mk (show W.heap.size ≠ fb from fun e => by have := hf.lt.1; omega)
  have HS := Aside0.mk (fun (k : Nat) (h : FinS fb tb sb k) => hf.slt h)
  have hkb : (k : Int) ≤ 100 := by omega
  have hdb : (d : Int) ≤ 100 := by omega
  have hlo : -1099511627776 ≤ left := by omega
  have HL1 := Aside0.mk (show ((1 + 810 * lookN 810 d : Nat) : Int) ≤ left + 1099511627776 from hl1)
  have hu := Tryz.underlying23
  have hu2 := Tryz.underlying36
  have hu3 := Tryz.underlying84
  have HY0 := Aside0.mk (show 0 < (legalL p).length from List.length_pos_iff.2 hno)
  have hln0 : ((legalL p).length : Int) ≠ 0 := by
    cases h : legalL p with
    | nil => exact absurd h hno
    | cons x r => simp; omega
  have hlnb : (((legalL p).length : Int) == 0) = false := by simpa using hln0
  have hcc : (p.clock == 120 && decide (0 < k)) = false := by
    rw [Bool.eq_false_iff]
    intro h
    simp only [Bool.and_eq_true, beq_iff_eq, decide_eq_true_eq] at h
    exact hc h
  have HCC := Aside0.mk hcc
  clear hcc
  unfold WthIs
  generalize worthS (d + 1) p.cells p.side p.clock k = V at *
  generalize moveW p d k = f at *
  rw [show lookN 810 (d + 1) = 1 + 810 * lookN 810 d from rfl]
  have HLP := Aside0.mk (lookN_pos 810 d)
  generalize hLd : lookN 810 d = L at *
  have HLD := Aside0.mk hLd
  clear hLd
  generalize legalL p = l at *
  clear hw h9 hk hl1 hf hT hno hc hck hbd hsd IH HM90 hln0
  go_enter Tryz.func23, Tryz.ntmps23
  go_upto_region 1 with fail
  generalize W.alloc (.cells #[.string p.cells, .int .i64 p.side, .int .i64 p.clock, .int .i64 p.full] 23) = W1 at *
  have f1 := HW0.out.fin.lf
  have f2 := HW0.out.fin.fz
  go_upto_region 2 with fail
  have HW1 := Aside0.mk (HW0.out.less HNE.out (left - 1))
  clear f1 f2 HW0
  generalize W1.setCell ⟨fb, 1, none⟩ (.int .i64 (left - 1)) = W2 at *
  obtain ⟨c0, c1, c2, c3⟩ := HW1.out.box
  go_wp2_with fail
  refine (HM.out _ (HT.out _ HW1.out.ken)).mono ?_
  rintro e w1 ⟨v, rfl, ho, hb⟩
  have HW2 := Aside0.mk (And.intro (HW1.out.below hb) (World.block_lt_of_cell? W2 _ c0))
  have ho' := ho
  obtain ⟨hl, ⟨rfl, h0⟩ | ⟨b, cap, cur0, rfl, hb0, hh, hnc, hcm, hcs, hct⟩⟩ := ho
  · exfalso; rw [h0] at hlnb; simp at hlnb
  have HC := Aside0.mk (And.intro (HORD.out W2.heap.size b cap c (left - 1) w1 HW2.out.1.fin ho' (blk_lt hh)) (And.intro (Nat.lt_of_lt_of_le HW2.out.2 hb0) (blk_lt hh)))
  clear hl hh hnc hcm hcs hct ho' hb0 hb c0 c1 c2 c3
  obtain ⟨c0, c1, c2, c3⟩ := HW2.out.1.box
  go_upto_region 5 with fail
  go_cut [40] from 41 to 47 (fun s40 wx => s40 = .bool false ∧ wx = w1)
  case first =>
    have hcc := HCC.out
    cases hcl : (p.clock == 120)
    · clear hcc
      go_wp2_with fail
      go_meet
      exact ⟨rfl, rfl⟩
    · rw [hcl, Bool.true_and] at hcc
      go_wp2_with fail
      go_meet
      exact ⟨rfl, rfl⟩
  case rest =>
  obtain ⟨rfl, rfl⟩ := hcut
  go_wp2_with fail
  refine HC.out.1.mono ?_
  rintro e w3 ⟨rfl, ys, hperm, hown, hken⟩
  have hle := hperm.length_eq
  have hy0 : 0 < ys.length := by rw [hle]; exact HY0.out
  have HW3 := Aside0.mk (And.intro (WfAt.mk (HW2.out.1.box.ken hken (fun e => by have := HC.out.2.1; omega)) (HW2.out.1.fin.ken hken (fun k hs e => by have := HS.out k hs; have := HC.out.2.1; omega)) (HW2.out.1.ken.trans hken (fun j hj => .inr (by rw [hj]; exact Nat.le_of_lt HC.out.2.1)))) (And.intro hown (Nat.lt_of_lt_of_le HC.out.2.2 hken.size)))
  have HLE := Aside0.mk hle
  have hy1 : 0 < l.length := HY0.out
  clear hle hken c0 c1 c2 c3
  obtain ⟨x0, x1⟩ := OwnM.cellsAt hown 0 hy0
  have HPM := Aside0.mk hperm
  clear hown hperm
  go_upto_region 11 with fail
  have hg0 : ys.getD 0 (0, 0) = ys[0] := by simp [List.getD_eq_getElem?_getD, hy0]
  have HA := below_alloc (Below.refl w3.heap.size w3) (.cells #[.int .i64 (ys[0].1 : Int), .int .i64 (ys[0].2 : Int)] 36)
  have HW4 : Aside0 (WlAt W (w3.alloc (.cells #[.int .i64 (ys[0].1 : Int), .int .i64 (ys[0].2 : Int)] 36)) fb tb sb c (left - 1) W.heap.size p W2.heap.size b cap l.length ys w3.heap.size ys[0]) :=
    ⟨HW3.out.1.below HA, pw_own_below HW3.out.2.1 HA, by simp [World.cell?_alloc_at], by simp [World.cell?_alloc_at], World.frozen?_alloc_at _ _ _ 0 rfl, World.frozen?_alloc_at _ _ _ 1 rfl, HW3.out.1.ken.size, Nat.le_of_lt HC.out.2.1, Nat.le_refl _, (fun e => by have := HW3.out.2.2; omega), (fun e => by have hh : W.heap.size < w3.heap.size := World.block_lt_of_cell? w3 ⟨W.heap.size, 0, none⟩ HW3.out.1.box.c0; omega), HS.out⟩
  clear HA hg0 x0 x1 HW3 HC HW2
  generalize w3.alloc (.cells #[.int .i64 (ys[0].1 : Int), .int .i64 (ys[0].2 : Int)] 36) = w4 at *
  generalize w3.heap.size = mb at *
  generalize W2.heap.size = base at *
  generalize ys[0] = y0 at *
  have HFY := Aside0.mk (fun (m : Mv) (hm : m ∈ ys) => HF.out m (HPM.out.subset hm))
  have HVB := Aside0.mk (HWB.out ys HPM.out)
  have HM90 := Aside0.mk (fun (m : Mv) (hm : m ∈ ys) => show m.1 < 90 ∧ m.2 < 90 from H90.out m (HPM.out.subset hm))
  clear HF HWB HPM hlnb HM HORD HCC hy0 H90
  go_upto_block 1 with fail
  go_cut [4] from 68 to 106 (fun s4 wx => ∃ (cur left' : Int) (c' : Nat) (m : Mv), s4 = .int .i64 cur ∧ (low ≤ cur ∧ cur ≤ high) ∧ Aside0 (0 ≤ left' → min cur high = clipI V low high) ∧ Aside0 (left' ≤ left - 1 ∧ left - ((1 + 810 * L : Nat) : Int) ≤ left' ∧ (c' : Int) + left' ≤ (c : Int) + left - 1) ∧ Aside0 (WlAt W wx fb tb sb c' left' W.heap.size p base b cap l.length ys mb m))
  case first =>
    go_wp2_with fail
    go_loopg [4, 68] l.length (fun gg s4 s68 wr => ∃ (i : Nat) (cur left' : Int) (c' : Nat) (m : Mv), s4 = .int .i64 cur ∧ s68 = .int .i64 (i : Int) ∧ i + gg = l.length ∧ low ≤ cur ∧ cur ≤ high ∧ Aside0 (0 ≤ left' → min cur high = min (max (bestF f (-1073741824) (ys.take i)) low) high) ∧ Aside0 (left' ≤ left - 1 ∧ left - 1 - ((i * L : Nat) : Int) ≤ left' ∧ (c' : Int) + left' ≤ (c : Int) + left - 1) ∧ Aside0 (WlAt W wr fb tb sb c' left' W.heap.size p base b cap l.length ys mb m))
    case atStart => exact ⟨0, low, left - 1, c, y0, rfl, rfl, by omega, by omega, h2, ⟨fun _ => show min low high = min (max (-1073741824) low) high by omega⟩, ⟨by simp, by simp, by omega⟩, HW4⟩
    case round =>
      clear HW4
      obtain ⟨i, cur, left', c', m0, rfl, rfl, hi, hcl1, hcl2, HE, HLF, HWL⟩ := hrel
      cases gk with
      | zero =>
        have hn : ¬ ((i : Int) < (l.length : Int)) := by omega
        have HR := Aside0.mk (fun (h : 0 ≤ left') => show min cur high = clipI V low high by rw [HVB.out, HE.out h, show ys.take i = ys by rw [List.take_of_length_le (by rw [HLE.out]; omega)]]; rfl)
        have HLL := Aside0.mk (look_last (Nat.le_of_eq (show i = l.length by omega)) HN.out HLF.out.2.1)
        clear hi
        go_wp2_with fail
        go_meet
        exact ⟨cur, left', c', m0, rfl, ⟨hcl1, hcl2⟩, HR, ⟨HLF.out.1, HLL.out, HLF.out.2.2⟩, HWL⟩
      | succ g =>
        have hn : (i : Int) < (l.length : Int) := by omega
        have hil : i < ys.length := by rw [HLE.out]; omega
        have hib : (i : Int) ≤ 810 := by have := HN.out; omega
        have HIN := Aside0.mk (show i + 1 + g = l.length by omega)
        have HROOM := Aside0.mk (look_room (show i < l.length by omega) HN.out HLF.out.2.1 HL1.out)
        obtain ⟨x0, x1⟩ := OwnM.cellsAt HWL.out.own i hil
        have hge : ys.getD i (0, 0) = ys[i] := by simp [List.getD_eq_getElem?_getD, hil]
        rw [hge] at x0 x1
        obtain ⟨q, cq, hmk, hwq, hq9, hfq⟩ := HFY.out ys[i] (List.getElem_mem hil)
        obtain ⟨hm1, hm2⟩ := HM90.out ys[i] (List.getElem_mem hil)
        have HNX := Aside0.mk (bestF_take f (-1073741824) ys i hil)
        have HPT := Aside0.mk (show bestF f (-1073741824) (ys.take i) ≤ V by rw [HVB.out]; exact bestF_part f (-1073741824) ys i)
        generalize ys[i] = m at *
        obtain ⟨ma, mb2⟩ := m
        simp only at x0 x1 hm1 hm2
        have HFQ := Aside0.mk (And.intro hmk (And.intro hwq (And.intro hq9 hfq)))
        clear hge hmk hwq hq9 hfq hm1 hm2 hi
        go_upto_region 14 with fail
        have HA := below_alloc (Below.refl wr.heap.size wr) (.cells #[.int .i64 (ma : Int), .int .i64 (mb2 : Int)] 36)
        have HW5 := Aside0.mk (HWL.out.below HA)
        have d0 : (wr.alloc (.cells #[.int .i64 (ma : Int), .int .i64 (mb2 : Int)] 36)).cell? ⟨wr.heap.size, 0, none⟩ = some (.int .i64 (ma : Int)) := by simp [World.cell?_alloc_at]
        have d1 : (wr.alloc (.cells #[.int .i64 (ma : Int), .int .i64 (mb2 : Int)] 36)).cell? ⟨wr.heap.size, 1, none⟩ = some (.int .i64 (mb2 : Int)) := by simp [World.cell?_alloc_at]
        have HGE := Aside0.mk (show W.heap.size ≤ wr.heap.size from HWL.out.wf.ken.size)
        have HNB := Aside0.mk (show wr.heap.size ≠ mb from fun e => by have hh : mb < wr.heap.size := World.block_lt_of_cell? wr ⟨mb, 0, none⟩ HWL.out.m0; omega)
        generalize wr.alloc (.cells #[.int .i64 (ma : Int), .int .i64 (mb2 : Int)] 36) = w5 at *
        generalize wr.heap.size = b16 at *
        clear HA HWL x0 x1 hil
        have f1 := HW5.out.wf.fin.lf
        by_cases hcut : high ≤ cur
        · have HR := Aside0.mk (fun (h : 0 ≤ left') => show min cur high = clipI V low high by rw [show min cur high = high by omega]; exact within_cut hcut (HE.out h) HPT.out)
          have HLL := Aside0.mk (look_last (show i ≤ l.length by have := HIN.out; omega) HN.out HLF.out.2.1)
          clear d0 d1
          go_wp2_with fail
          go_meet
          exact ⟨cur, left', c', m0, rfl, ⟨hcl1, hcl2⟩, HR, ⟨HLF.out.1, HLL.out, HLF.out.2.2⟩, HW5⟩
        · have hlt : cur < high := by omega
          by_cases hneg : left' < 0
          · have HR := Aside0.mk (fun (h : 0 ≤ left') => show min cur high = clipI V low high by omega)
            have HLL := Aside0.mk (look_last (show i ≤ l.length by have := HIN.out; omega) HN.out HLF.out.2.1)
            clear d0 d1
            go_wp2_with fail
            go_meet
            exact ⟨cur, left', c', m0, rfl, ⟨hcl1, hcl2⟩, HR, ⟨HLF.out.1, HLL.out, HLF.out.2.2⟩, HW5⟩
          · have hpos : 0 ≤ left' := by omega
            obtain ⟨c0, c1, c2, c3⟩ := HW5.out.wf.box
            have HMK2 := Aside0.mk (HMK.out (mviOf (ma, mb2)) w5 (HT.out _ HW5.out.wf.ken))
            unfold MakeIs at HMK2
            rw [HFQ.out.1] at HMK2
            have HDD := Aside0.mk (And.intro d0 d1)
            go_wp2_with fail
            refine HMK2.out.mono ?_
            rintro e w6 ⟨rfl, hb⟩
            have HW6 := Aside0.mk (And.intro (HW5.out.below hb) (And.intro (pw_cell_below hb HDD.out.1) (pw_cell_below hb HDD.out.2)))
            clear hb d0 d1 c0 c1 c2 c3 f1 HW5 HMK2 HDD
            go_upto_region 16 with fail
            have HQB := Aside0.mk (BoxP.new w6 q)
            have HL7 := Aside0.mk (below_alloc (Below.refl w6.heap.size w6) (.cells #[.string q.cells, .int .i64 q.side, .int .i64 q.clock, .int .i64 q.full] 23))
            have HW7 := Aside0.mk (And.intro (HW6.out.1.below HL7.out) (And.intro (pw_cell_below HL7.out HW6.out.2.1) (pw_cell_below HL7.out HW6.out.2.2)))
            generalize w6.alloc (.cells #[.string q.cells, .int .i64 q.side, .int .i64 q.clock, .int .i64 q.full] 23) = w7 at *
            generalize w6.heap.size = b17 at *
            clear HL7 HW6
            obtain ⟨e0, e1, e2, e3⟩ := HQB.out
            have HC := Aside0.mk (HIH.out q (-high) (-cur) c' left' w7 HFQ.out.2.1 HFQ.out.2.2.1 (by omega) (by omega) (by omega) HROOM.out (by have := HLF.out.1; omega) (by have := HLF.out.2.2; omega) HW7.out.1.wf.fin (HT.out _ HW7.out.1.wf.ken))
            unfold WthIs at HC
            go_wp2_with fail
            refine HC.out.mono ?_
            rintro e w8 ⟨r, l2, c2', rfl, ⟨hr1, hr2⟩, hv, hl2, hfin, hken⟩
            rw [HLD.out] at hl2
            have HW8 := Aside0.mk (And.intro (HW7.out.1.call hfin hken) (And.intro (hken.cell HW7.out.2.1 (HW7.out.1.out HGE.out)) (hken.cell HW7.out.2.2 (HW7.out.1.out HGE.out))))
            have HLN := Aside0.mk (look_next HLF.out.2.1 hl2.2.1)
            have HL2 := Aside0.mk (show l2 ≤ left - 1 ∧ (c2' : Int) + l2 ≤ (c : Int) + left - 1 by have := HLF.out; omega)
            have HNE2 := Aside0.mk (fun (h : 0 ≤ l2) => show min (max cur (-r)) high = min (max (bestF f (-1073741824) (ys.take (i + 1))) low) high by
              rw [HNX.out, HFQ.out.2.2.2, hv h, clip_neg _ _ _ (Int.le_of_lt hlt)]
              exact within_round hlt (HE.out hpos))
            clear hv hl2 hfin hken e0 e1 e2 e3 HC HW7 HQB HROOM hcut hneg HNX HPT HE
            obtain ⟨d0, d1⟩ := HW8.out.2
            by_cases hgt : cur < -r
            · have HX := Aside0.mk (show max cur (-r) = -r by omega)
              have z0 := HW8.out.1.z0
              have z1 := HW8.out.1.z1
              have m1 := HW8.out.1.m0
              have m2 := HW8.out.1.m1
              have nb := HNB.out
              go_wp2_with fail
              go_region
              all_goals
                go_wp2_with fail
                go_roundg g
                case measure => omega
                case rel => exact ⟨i + 1, -r, l2, c2', (ma, mb2), rfl, by go_num, HIN.out, by omega, by omega, ⟨fun h => by rw [← HNE2.out h, HX.out]⟩, ⟨HL2.out.1, HLN.out, HL2.out.2⟩, ⟨(HW8.out.1.best (ma, mb2)).below (pw_below_drewN (Below.refl _ _) 1)⟩⟩
            · have HX := Aside0.mk (show max cur (-r) = cur by omega)
              clear d0 d1
              go_wp2_with fail
              go_roundg g
              case measure => omega
              case rel => exact ⟨i + 1, cur, l2, c2', m0, rfl, by go_num, HIN.out, hcl1, hcl2, ⟨fun h => by rw [← HNE2.out h, HX.out]⟩, ⟨HL2.out.1, HLN.out, HL2.out.2⟩, ⟨HW8.out.1⟩⟩
  case rest =>
    obtain ⟨cur, left', c', m, rfl, ⟨hc1, hc2⟩, HE, HLF, HWL⟩ := hcut
    clear HW4 HFY HVB HM90 HIH HMK
    have HCB := Aside0.mk (show c' < 4611686018427387904 by have := HLF.out; have := HL1.out; omega)
    have HEND := Aside0.mk (fun (w' : World) (c'' : Nat) (hle : c'' ≤ c' + 1) (hx : FinAt w' fb tb sb c'' left') (hy : Ken (FinS fb tb sb) W w') => show ∃ (r left' : Int) (c' : Nat), Ending.returned (.int .i64 (min cur high)) = .returned (.int .i64 r) ∧ (low ≤ r ∧ r ≤ high) ∧ (0 ≤ left' → r = clipI V low high) ∧ (left' < left ∧ left - ((1 + 810 * L : Nat) : Int) ≤ left' ∧ (c' : Int) + left' ≤ (c : Int) + left) ∧ FinAt w' fb tb sb c' left' ∧ Ken (FinS fb tb sb) W w' from
      ⟨_, left', c'', rfl, by omega, HE.out, by have := HLF.out; omega, hx, hy⟩)
    obtain ⟨ma, mb2⟩ := m
    have tp := HWL.out.wf.fin.tp
    obtain ⟨c0, c1, c2, c3⟩ := HWL.out.wf.box
    have m1 := HWL.out.m0
    have m2 := HWL.out.m1
    simp only at m1 m2
    have hcm : cur ≤ high := hc2
    clear hc1 hc2 HE HLF
    go_upto_region 20 with fail
    go_region_held3 (fun w' => w'.cell? ⟨fb, 0, none⟩ = some (.pointer (some ⟨tb, 0, none⟩)) ∧ w'.cell? ⟨W.heap.size, 0, none⟩ = some (.string p.cells) ∧ w'.cell? ⟨W.heap.size, 1, none⟩ = some (.int .i64 p.side) ∧ w'.cell? ⟨W.heap.size, 2, none⟩ = some (.int .i64 p.clock) ∧ w'.cell? ⟨W.heap.size, 3, none⟩ = some (.int .i64 p.full) ∧ w'.cell? ⟨mb, 0, none⟩ = some (.int .i64 (ma : Int)) ∧ w'.cell? ⟨mb, 1, none⟩ = some (.int .i64 (mb2 : Int))) (go_keep)
      (first
        | (go_at_call 44; refine (HKO.out wc.drew).mono ?_; rintro e w9 ⟨kk, rfl, hkk, hb⟩; have HKK := Aside0.mk hkk; have HW9 := Aside0.mk ((HWL.out.below (pw_below_drewN (Below.refl _ _) 1)).below hb); clear hb hkk tp c0 c1 c2 c3 m1 m2; have tp := HW9.out.wf.fin.tp; obtain ⟨c0, c1, c2, c3⟩ := HW9.out.wf.box; have m1 := HW9.out.m0; have m2 := HW9.out.m1; simp only at m1 m2)
        | (go_at_call 43; refine (put_some HW9.out.wf.fin kk ((d : Int) + 1) ma mb2 HKK.out.1 HCB.out).mono ?_; rintro e w10 ⟨bb, c2', rfl, hfin, hcle, hken⟩; have HW10 := Aside0.mk (And.intro (HW9.out.call hfin hken) hcle); clear hfin hken hcle tp c0 c1 c2 c3 m1 m2; have tp := HW10.out.1.wf.fin.tp; obtain ⟨c0, c1, c2, c3⟩ := HW10.out.1.wf.box; have m1 := HW10.out.1.m0; have m2 := HW10.out.1.m1; simp only at m1 m2))
    go_wp2_with fail
    go_ret
    exact HEND.out _ _ HW10.out.2 HW10.out.1.wf.fin HW10.out.1.wf.ken
end
/-- **What within answers, at any depth.** -/
theorem wth_all : ∀ d : Nat, WthC d := by
  intro d
  induction d with
  | zero =>
    intro p k low high fb tb sb c left W hw h9 hk h1 h2 h3 hl1 hl2 hcl hf hT
    by_cases hno : legalL p = []
    · exact wth_none p 0 k low high fb tb sb c left W 0 hw hk h1 h2 h3 hl1 hl2 hf hT hno
    · by_cases hc : p.clock = 120 ∧ 0 < k
      · exact wth_clock p 0 k low high fb tb sb c left W 0 hw hk h1 h2 h3 hl1 hl2 hf hT hno hc.1 hc.2
      · exact wth_leaf p k low high fb tb sb c left W hw hk h1 h2 h3 hl1 hl2 hf hT hno h9 hc
  | succ d ih =>
    intro p k low high fb tb sb c left W hw h9 hk h1 h2 h3 hl1 hl2 hcl hf hT
    have e : ((d + 1 : Nat) : Int) = (d : Int) + 1 := Int.natCast_succ d
    rw [e]
    by_cases hno : legalL p = []
    · exact wth_none p (d + 1) k low high fb tb sb c left W _ hw hk h1 h2 h3 hl1 hl2 hf hT hno
    · by_cases hc : p.clock = 120 ∧ 0 < k
      · exact wth_clock p (d + 1) k low high fb tb sb c left W _ hw hk h1 h2 h3 hl1 hl2 hf hT hno hc.1 hc.2
      · exact wth_next p d k low high fb tb sb c left W ih hw h9 hk h1 h2 h3 hl1 hl2 hcl hf hT hno hc
end Go.Proofs.YtafmapadkpjliaaGreatDoor.K

/- search: root: what it answers. -/
namespace Go.Proofs.YtafmapadkpjliaaGreatDoor.K
open Go.RowKit Go.Lib Go.Proofs.YtafmapadkpjliaaGreatDoorW.PrintWords Go.Proofs.YtafmapadkpjliaaGreatDoorW.PrintLast Go.Proofs.YtafmapadkpjliaaGreatDoorW.PrintMore Go.Proofs.YtafmapadkpjliaaGreatDoor.Sp
set_option linter.unusedVariables false
set_option linter.unusedSimpArgs false
/-- A result as a value. -/
abbrev resV (a b s D : Int) (f : Bool) : Value := .agg #[.int .i64 a, .int .i64 b, .int .i64 s, .int .i64 D, .bool f]
/-- A result in a box. -/
structure BoxR (W : World) (g : Nat) (a b s D : Int) (f : Bool) : Prop where
  r0 : W.cell? ⟨g, 0, none⟩ = some (.int .i64 a)
  r1 : W.cell? ⟨g, 1, none⟩ = some (.int .i64 b)
  r2 : W.cell? ⟨g, 2, none⟩ = some (.int .i64 s)
  r3 : W.cell? ⟨g, 3, none⟩ = some (.int .i64 D)
  r4 : W.cell? ⟨g, 4, none⟩ = some (.bool f)
  fz : ∀ k, W.frozen? ⟨g, k, none⟩ = false
section
variable {W W' : World} {g : Nat} {a b s D : Int} {f : Bool}
theorem BoxR.lt (h : BoxR W g a b s D f) : g < W.heap.size := World.block_lt_of_cell? W ⟨g, 0, none⟩ h.r0
theorem BoxR.below (h : BoxR W g a b s D f) (hb : Below W.heap.size W W') : BoxR W' g a b s D f :=
  ⟨below_cell hb _ _ _ h.r0, below_cell hb _ _ _ h.r1, below_cell hb _ _ _ h.r2, below_cell hb _ _ _ h.r3, below_cell hb _ _ _ h.r4, fun k => (hb.frozen (p := ⟨g, k, none⟩) h.lt).trans (h.fz k)⟩
theorem BoxR.ken {S : Nat → Prop} (h : BoxR W g a b s D f) (hk : Ken S W W') (hn : ¬ S g) : BoxR W' g a b s D f :=
  ⟨hk.cell h.r0 hn, hk.cell h.r1 hn, hk.cell h.r2 hn, hk.cell h.r3 hn, hk.cell h.r4 hn, fun k => (hk.free h.lt hn).trans (h.fz k)⟩
/-- A box that is written. -/
def setR (W : World) (g : Nat) (a b s D : Int) (f : Bool) : World := ((((W.setCell ⟨g, 0, none⟩ (.int .i64 a)).setCell ⟨g, 1, none⟩ (.int .i64 b)).setCell ⟨g, 2, none⟩ (.int .i64 s)).setCell ⟨g, 3, none⟩ (.int .i64 D)).setCell ⟨g, 4, none⟩ (.bool f)
theorem BoxR.put (h : BoxR W g a b s D f) (a2 b2 s2 D2 : Int) (f2 : Bool) : BoxR (setR W g a2 b2 s2 D2 f2) g a2 b2 s2 D2 f2 := by
  obtain ⟨r0, r1, r2, r3, r4, fz⟩ := h
  unfold setR
  refine ⟨?_, ?_, ?_, ?_, ?_, ?_⟩
  all_goals simp (maxDischargeDepth := 8) [go_sem, r0, r1, r2, r3, r4, fz]
theorem ken_setR (W : World) (g : Nat) (a b s D : Int) (f : Bool) : Ken (fun k => k = g) W (setR W g a b s D f) :=
  ((((ken_set W g 0 _).trans (ken_set _ g 1 _) (fun j hj => .inl hj)).trans (ken_set _ g 2 _) (fun j hj => .inl hj)).trans (ken_set _ g 3 _) (fun j hj => .inl hj)).trans (ken_set _ g 4 _) (fun j hj => .inl hj)
theorem BoxR.new (w : World) (a b s D : Int) (f : Bool) (T : TypeId) : BoxR (w.alloc (.cells #[.int .i64 a, .int .i64 b, .int .i64 s, .int .i64 D, .bool f] T)) w.heap.size a b s D f :=
  ⟨by simp [World.cell?_alloc_at], by simp [World.cell?_alloc_at], by simp [World.cell?_alloc_at], by simp [World.cell?_alloc_at], by simp [World.cell?_alloc_at], fun k => World.frozen?_alloc_at _ _ _ k rfl⟩
end
theorem MvAt.ken {S : Nat → Prop} {W W' : World} {B : Nat} {v : Value} {l : List Mv} (h : MvAt W B v l) (hk : Ken S W W') (hn : ∀ g, v.ownBlock = some g → ¬ S g) : MvAt W' B v l := by
  obtain ⟨A, cap, hv, h⟩ := h.out
  refine ⟨A, cap, hv, ?_⟩
  rcases h with h | ⟨g, hA, hB, hg, hx⟩
  · exact .inl h
  · have hng := hn g (by rw [hv, hA]; rfl)
    exact .inr ⟨g, hA, hB, Nat.lt_of_lt_of_le hg hk.size, fun i hi => ⟨hk.cell (hx i hi).1 hng, hk.cell (hx i hi).2 hng⟩⟩
/-- What root's box tells of the moves so far. -/
def RtOk (o : Option (Mv × Int)) (D a b s D' : Int) (f : Bool) : Prop :=
  match o with
  | none => a = 0 ∧ b = 0 ∧ s = -1073741824 ∧ D' = 0 ∧ f = false
  | some (m, v) => a = m.1 ∧ b = m.2 ∧ s = v ∧ D' = D ∧ f = true ∧ -30000 ≤ v ∧ v ≤ 30000
theorem RtOk.lt {o : Option (Mv × Int)} {D a b s D' : Int} {f : Bool} (h : RtOk o D a b s D' f) : -1073741824 ≤ s ∧ s < 1073741824 := by
  cases o with
  | none => obtain ⟨_, _, h, _⟩ := h; omega
  | some x => obtain ⟨m, v⟩ := x; obtain ⟨_, _, h, _, _, h1, h2⟩ := h; omega
theorem RtOk.more {g : Mv → Int} {o : Option (Mv × Int)} {D a b s D' : Int} {f : Bool} (h : RtOk o D a b s D' f) (m : Mv) (hg : -30000 ≤ g m ∧ g m ≤ 30000) (hlt : s < max s (g m)) : RtOk (fbF g o m) D m.1 m.2 (max s (g m)) D true := by
  cases o with
  | none => exact ⟨rfl, rfl, by obtain ⟨_, _, h, _⟩ := h; omega, rfl, rfl, hg⟩
  | some x =>
    obtain ⟨m0, v⟩ := x
    obtain ⟨_, _, h, _⟩ := h
    have : v < g m := by omega
    show RtOk (if v < g m then some (m, g m) else some (m0, v)) _ _ _ _ _ _
    rw [if_pos this]
    exact ⟨rfl, rfl, by omega, rfl, rfl, hg⟩
theorem RtOk.same {g : Mv → Int} {o : Option (Mv × Int)} {D a b s D' : Int} {f : Bool} (h : RtOk o D a b s D' f) (m : Mv) (hg : -30000 ≤ g m ∧ g m ≤ 30000) (hlt : ¬ s < max s (g m)) : RtOk (fbF g o m) D a b s D' f := by
  cases o with
  | none => obtain ⟨_, _, h, _⟩ := h; exfalso; omega
  | some x =>
    obtain ⟨m0, v⟩ := x
    have h0 := h
    obtain ⟨_, _, h, _⟩ := h
    have : ¬ v < g m := by omega
    show RtOk (if v < g m then some (m, g m) else some (m0, v)) _ _ _ _ _ _
    rw [if_neg this]
    exact h0
/-- What root tells of all moves. -/
def resT (o : Option (Mv × Int)) (D a b s D' : Int) (f : Bool) : Prop :=
  match o with
  | none => a = 0 ∧ b = 0 ∧ s = 0 ∧ D' = 0 ∧ f = false
  | some (m, v) => a = m.1 ∧ b = m.2 ∧ s = v ∧ D' = D ∧ f = true
theorem RtOk.found {o : Option (Mv × Int)} {D a b s D' : Int} {f : Bool} (h : RtOk o D a b s D' f) (hf : f = true) : resT o D a b s D' f := by
  cases o with
  | none => obtain ⟨_, _, _, _, h⟩ := h; rw [hf] at h; cases h
  | some x => obtain ⟨m, v⟩ := x; obtain ⟨h1, h2, h3, h4, h5, _⟩ := h; exact ⟨h1, h2, h3, h4, h5⟩
theorem RtOk.not {o : Option (Mv × Int)} {D a b s D' : Int} {f : Bool} (h : RtOk o D a b s D' f) (hf : f = false) : resT o D 0 0 0 0 false := by
  cases o with
  | none => exact ⟨rfl, rfl, rfl, rfl, rfl⟩
  | some x => obtain ⟨m, v⟩ := x; obtain ⟨_, _, _, _, h5, _⟩ := h; rw [hf] at h5; cases h5
/-- What root answers. -/
def RootIs (p : Pos) (d : Nat) (l : List Mv) (fb tb sb c : Nat) (left : Int) (W : World) (e : Ending) (w' : World) : Prop :=
  ∃ (a b s D : Int) (f : Bool) (left' : Int) (c' : Nat), e = .returned (resV a b s D f) ∧ (0 ≤ left' → resT (firstB (moveW p d 0) l) ((d : Int) + 1) a b s D f) ∧ (left' ≤ left ∧ left - ((l.length * lookN 810 d : Nat) : Int) ≤ left' ∧ (c' : Int) + left' ≤ (c : Int) + left) ∧ FinAt w' fb tb sb c' left' ∧ Ken (FinS fb tb sb) W w'
/-- What stands between two rounds of root. -/
structure RnAt (W0 W : World) (fb tb sb c : Nat) (left : Int) (B : Nat) (p : Pos) (Bm : Nat) (v : Value) (l : List Mv) (ra rb : Nat) (a b s D : Int) (f : Bool) : Prop where
  wf : WfAt W0 W fb tb sb c left B p
  row : MvAt W Bm v l
  ans : BoxR W ra 0 0 0 0 false
  box : BoxR W rb a b s D f
  gr : W0.heap.size ≤ rb
  ga : W0.heap.size ≤ ra
  gB : W0.heap.size ≤ B
  na : ra ≠ rb
  nB : B ≠ rb
  nv : ∀ k, v.ownBlock = some k → ¬ FinS fb tb sb k ∧ k < W0.heap.size
  sm : ∀ k, FinS fb tb sb k → k < W0.heap.size
section
variable {W0 W W' : World} {fb tb sb c : Nat} {left : Int} {B : Nat} {p : Pos} {Bm : Nat} {v : Value} {l : List Mv} {ra rb : Nat} {a b s D : Int} {f : Bool}
theorem RnAt.below (h : RnAt W0 W fb tb sb c left B p Bm v l ra rb a b s D f) (hb : Below W.heap.size W W') : RnAt W0 W' fb tb sb c left B p Bm v l ra rb a b s D f :=
  ⟨h.wf.below hb, h.row.below hb, h.ans.below hb, h.box.below hb, h.gr, h.ga, h.gB, h.na, h.nB, h.nv, h.sm⟩
theorem RnAt.out (h : RnAt W0 W fb tb sb c left B p Bm v l ra rb a b s D f) {j : Nat} (hj : W0.heap.size ≤ j) : ¬ FinS fb tb sb j := fun hs => by have := h.sm j hs; omega
theorem RnAt.call (h : RnAt W0 W fb tb sb c left B p Bm v l ra rb a b s D f) {c' : Nat} {left' : Int} (hf : FinAt W' fb tb sb c' left') (hk : Ken (FinS fb tb sb) W W') : RnAt W0 W' fb tb sb c' left' B p Bm v l ra rb a b s D f :=
  ⟨⟨h.wf.box.ken hk (h.out h.gB), hf, h.wf.ken.trans hk (fun j hj => .inl hj)⟩, h.row.ken hk (fun g hg => (h.nv g hg).1), h.ans.ken hk (h.out h.ga), h.box.ken hk (h.out h.gr), h.gr, h.ga, h.gB, h.na, h.nB, h.nv, h.sm⟩
theorem RnAt.put (h : RnAt W0 W fb tb sb c left B p Bm v l ra rb a b s D f) (a2 b2 s2 D2 : Int) (f2 : Bool) : RnAt W0 (setR W rb a2 b2 s2 D2 f2) fb tb sb c left B p Bm v l ra rb a2 b2 s2 D2 f2 := by
  have hk := ken_setR W rb a2 b2 s2 D2 f2
  exact ⟨⟨h.wf.box.ken hk h.nB, h.wf.fin.ken hk (fun k hs e => h.out h.gr (e ▸ hs)), h.wf.ken.trans hk (fun j hj => .inr (by rw [hj]; exact h.gr))⟩, h.row.ken hk (fun g hg e => by have := (h.nv g hg).2; have := h.gr; omega), h.ans.ken hk h.na, h.box.put _ _ _ _ _, h.gr, h.ga, h.gB, h.na, h.nB, h.nv, h.sm⟩
theorem RnAt.ends (h : RnAt W0 W fb tb sb c left B p Bm v l ra rb a b s D f) (a2 b2 s2 D2 : Int) (f2 : Bool) : FinAt (setR W ra a2 b2 s2 D2 f2) fb tb sb c left ∧ Ken (FinS fb tb sb) W0 (setR W ra a2 b2 s2 D2 f2) :=
  ⟨h.wf.fin.ken (ken_setR W ra a2 b2 s2 D2 f2) (fun k hs e => h.out h.ga (e ▸ hs)), h.wf.ken.trans (ken_setR W ra a2 b2 s2 D2 f2) (fun j hj => .inr (by rw [hj]; exact h.ga))⟩
end
end Go.Proofs.YtafmapadkpjliaaGreatDoor.K

/- search: root, walked. -/
namespace Go.Proofs.YtafmapadkpjliaaGreatDoor.K
open Go.RowKit Go.Lib Go.Proofs.YtafmapadkpjliaaGreatDoorW.PrintWords Go.Proofs.YtafmapadkpjliaaGreatDoorW.PrintLast Go.Proofs.YtafmapadkpjliaaGreatDoorW.PrintMore Go.Proofs.YtafmapadkpjliaaGreatDoor.Sp
set_option linter.unusedVariables false
set_option linter.unusedSimpArgs false
set_option maxRecDepth 100000 in
set_option maxHeartbeats 8000000 in
theorem root_c (p : Pos) (d : Nat) (l : List Mv) (Bm : Nat) (v : Value) (fb tb sb c : Nat) (left : Int) (W : World) (hw : wellS p = 0) (h9 : nP p.cells ≤ 9) (hd : d ≤ 90) (hl : ∀ m ∈ l, m ∈ legalL p) (hn : l.length ≤ 810)
    (hv : MvAt W Bm v l) (hvb : ∀ k, v.ownBlock = some k → ¬ FinS fb tb sb k ∧ k < W.heap.size) (hl1 : ((810 * lookN 810 d : Nat) : Int) ≤ left + 1099511627776) (hl2 : left ≤ 2147483648) (hcl : (c : Int) + left ≤ 1152921504606846976) (hf : FinAt W fb tb sb c left) (hT : TabW W) :
    Calls Tryz.prog 25 #[.pointer (some ⟨fb, 0, none⟩), posV p, .int .i64 ((d : Int) + 1), v] W (RootIs p d l fb tb sb c left W) := by
  have HT := Aside0.mk (fun (W' : World) (hb : Ken (FinS fb tb sb) W W') => tabW_ken hT hb hf.gS)
  have HMK := Aside0.mk (fun (m : Mvi) (W : World) (hT : TabW W) => make_c p m W hT)
  have HF := Aside0.mk (fun (m : Mv) (hm : m ∈ l) => show ∃ q cq, makeP p (mviOf m) = (q, cq, 0) ∧ wellS q = 0 ∧ nP q.cells ≤ 9 ∧ moveW p d 0 m = - worthS d q.cells q.side q.clock 1 by
    obtain ⟨q, cq, e1, e2, e3, e4, e5⟩ := legal_step8 (hl m hm)
    exact ⟨q, cq, e1, e2, Nat.le_trans (step_few e3) h9, step_worth d 0 (hl m hm) e1⟩)
  have HN := Aside0.mk hn
  have HFB := Aside0.mk (fun m => moveW_le p d 0 (by omega) m)
  have HIH := Aside0.mk (fun (q : Pos) (hi : Int) (c : Nat) (left : Int) (W : World) (hwq : wellS q = 0) (hq9 : nP q.cells ≤ 9) (a2 : -1073741824 ≤ hi) (a3 : hi ≤ 1073741824) (a4 : (lookN 810 d : Int) ≤ left + 1099511627776) (a5 : left ≤ 2147483648) (a6 : (c : Int) + left ≤ 1152921504606846976) (a7 : FinAt W fb tb sb c left) (a8 : TabW W) =>
    show Calls Tryz.prog 23 #[.pointer (some ⟨fb, 0, none⟩), posV q, .int .i64 (d : Int), .int .i64 1, .int .i64 (-1073741824), .int .i64 hi] W (WthIs q d 1 (-1073741824) hi fb tb sb c left W) from wth_all d q 1 (-1073741824) hi fb tb sb c left W hwq hq9 (by omega) (by omega) a2 a3 a4 a5 a6 a7 a8)
  have HL1 := Aside0.mk hl1
  have hdb : (d : Int) ≤ 100 := by omega
  have hu := Tryz.underlying23
  have hu2 := Tryz.underlying36
  have hu3 := Tryz.underlying38
  have HA1 := below_alloc (Below.refl W.heap.size W) (.cells #[.string p.cells, .int .i64 p.side, .int .i64 p.clock, .int .i64 p.full] 23)
  have HA2 := below_alloc HA1 (.cells #[.int .i64 0, .int .i64 0, .int .i64 0, .int .i64 0, .bool false] 38)
  have HA3 := below_alloc HA2 (.cells #[.int .i64 0, .int .i64 0, .int .i64 (-1073741824), .int .i64 0, .bool false] 38)
  have HR0 : Aside0 (RnAt W (((W.alloc (.cells #[.string p.cells, .int .i64 p.side, .int .i64 p.clock, .int .i64 p.full] 23)).alloc (.cells #[.int .i64 0, .int .i64 0, .int .i64 0, .int .i64 0, .bool false] 38)).alloc (.cells #[.int .i64 0, .int .i64 0, .int .i64 (-1073741824), .int .i64 0, .bool false] 38)) fb tb sb c left W.heap.size p Bm v l (W.heap.size + 1) (W.heap.size + 1 + 1) 0 0 (-1073741824) 0 false) := by
    have e1 := (WfAt.start hf p).below (below_alloc (Below.refl _ _) (.cells #[.int .i64 0, .int .i64 0, .int .i64 0, .int .i64 0, .bool false] 38))
    have e2 := e1.below (below_alloc (Below.refl _ _) (.cells #[.int .i64 0, .int .i64 0, .int .i64 (-1073741824), .int .i64 0, .bool false] 38))
    have e3 := (BoxR.new (W.alloc (.cells #[.string p.cells, .int .i64 p.side, .int .i64 p.clock, .int .i64 p.full] 23)) 0 0 0 0 false 38).below (below_alloc (Below.refl _ _) (.cells #[.int .i64 0, .int .i64 0, .int .i64 (-1073741824), .int .i64 0, .bool false] 38))
    have e4 := BoxR.new ((W.alloc (.cells #[.string p.cells, .int .i64 p.side, .int .i64 p.clock, .int .i64 p.full] 23)).alloc (.cells #[.int .i64 0, .int .i64 0, .int .i64 0, .int .i64 0, .bool false] 38)) 0 0 (-1073741824) 0 false 38
    rw [World.size_alloc] at e3
    rw [World.size_alloc, World.size_alloc] at e4
    exact ⟨⟨e2, hv.below HA3, e3, e4, by omega, by omega, Nat.le_refl _, by omega, by omega, hvb, fun k hk => hf.slt hk⟩⟩
  have HEND := Aside0.mk (fun (a b s D : Int) (fd : Bool) (left' : Int) (c' : Nat) (w' : World) (h1 : 0 ≤ left' → resT (firstB (moveW p d 0) l) ((d : Int) + 1) a b s D fd) (h2 : left' ≤ left ∧ left - ((l.length * lookN 810 d : Nat) : Int) ≤ left' ∧ (c' : Int) + left' ≤ (c : Int) + left) (h3 : FinAt w' fb tb sb c' left' ∧ Ken (FinS fb tb sb) W w') => show RootIs p d l fb tb sb c left W (.returned (resV a b s D fd)) w' from ⟨a, b, s, D, fd, left', c', rfl, h1, h2, h3.1, h3.2⟩)
  generalize moveW p d 0 = f at *
  generalize hLd : lookN 810 d = L at *
  have HLD := Aside0.mk hLd
  obtain ⟨A, cp, rfl⟩ := hv.form
  clear hLd hw h9 hd hl hn hv hvb hl1 hf hT HA1 HA2 HA3
  go_enter Tryz.func25, Tryz.ntmps25
  go_upto_region 2 with fail
  generalize ((W.alloc (.cells #[.string p.cells, .int .i64 p.side, .int .i64 p.clock, .int .i64 p.full] 23)).alloc (.cells #[.int .i64 0, .int .i64 0, .int .i64 0, .int .i64 0, .bool false] 38)).alloc (.cells #[.int .i64 0, .int .i64 0, .int .i64 (-1073741824), .int .i64 0, .bool false] 38) = W1 at *
  have HGE := Aside0.mk (show W.heap.size ≠ W.heap.size + 1 ∧ W.heap.size + 1 + 1 ≠ W.heap.size + 1 by omega)
  generalize hra : W.heap.size + 1 = ra at *
  generalize hrb : ra + 1 = rb at *
  clear hra hrb
  go_wp2_with fail
  go_loopg [19] l.length (fun gg s19 wr => ∃ (i : Nat) (a b s D : Int) (fd : Bool) (left' : Int) (c' : Nat), s19 = .int .i64 (i : Int) ∧ i + gg = l.length ∧ -1073741824 ≤ s ∧ s ≤ 1073741824 ∧ Aside0 (0 ≤ left' → RtOk (firstB f (l.take i)) ((d : Int) + 1) a b s D fd) ∧ Aside0 (left' ≤ left ∧ left - ((i * L : Nat) : Int) ≤ left' ∧ (c' : Int) + left' ≤ (c : Int) + left) ∧ Aside0 (RnAt W wr fb tb sb c' left' W.heap.size p Bm (.slice A l.length cp) l ra rb a b s D fd))
  case atStart => exact ⟨0, 0, 0, -1073741824, 0, false, left, c, rfl, by omega, by omega, by omega, ⟨fun _ => ⟨rfl, rfl, rfl, rfl, rfl⟩⟩, ⟨Int.le_refl _, by simp, Int.le_refl _⟩, HR0⟩
  case round =>
    clear HR0
    obtain ⟨i, a, b, s, D, fd, left', c', rfl, hi, hs1, hs2, HE, HLF, HR⟩ := hrel
    cases gk with
    | zero =>
      have hnn : ¬ ((i : Int) < (l.length : Int)) := by omega
      have hi2 : i = l.length := by omega
      have HE2 := Aside0.mk (show 0 ≤ left' → RtOk (firstB f l) ((d : Int) + 1) a b s D fd from fun h => by have := HE.out h; rw [hi2, List.take_length] at this; exact this)
      have HLF2 := Aside0.mk (show left' ≤ left ∧ left - ((l.length * L : Nat) : Int) ≤ left' ∧ (c' : Int) + left' ≤ (c : Int) + left by rw [← hi2]; exact HLF.out)
      clear hi hi2 HE HLF
      obtain ⟨q0, q1, q2, q3, q4, qf⟩ := HR.out.ans
      obtain ⟨r0, r1, r2, r3, r4, rf⟩ := HR.out.box
      cases fd
      case false =>
        go_wp2_with fail
        refine bodyPost_ret (by simp [results, Tryz.results25, go_sem, q0, q1, q2, q3, q4, r0, r1, r2, r3, r4]; try rfl) rfl ?_
        exact HEND.out 0 0 0 0 false left' c' _ (fun h => (HE2.out h).not rfl) HLF2.out (HR.out.ends 0 0 0 0 false)
      case true =>
        go_wp2_with fail
        refine bodyPost_ret (by simp [results, Tryz.results25, go_sem, q0, q1, q2, q3, q4, r0, r1, r2, r3, r4]; try rfl) rfl ?_
        exact HEND.out a b s D true left' c' _ (fun h => (HE2.out h).found rfl) HLF2.out (HR.out.ends a b s D true)
    | succ g =>
      have hn2 : (i : Int) < (l.length : Int) := by omega
      have hil : i < l.length := by omega
      have hib : (i : Int) ≤ 810 := by have := HN.out; omega
      have HIN := Aside0.mk (show i + 1 + g = l.length by omega)
      have HROOM := Aside0.mk (show (L : Int) ≤ left' + 1099511627776 by
        have h1 : (i + 1) * L ≤ 810 * L := Nat.mul_le_mul_right _ (by have := HN.out; omega)
        have h2 : (i + 1) * L = i * L + L := Nat.succ_mul _ _
        have := HLF.out
        have := HL1.out
        omega)
      obtain ⟨g1, cap1, hA1, _, hg1, hx1⟩ := HR.out.row.at (fun h => by rw [h] at hil; simp at hil)
      simp only [Value.slice.injEq, true_and] at hA1
      obtain ⟨rfl, rfl⟩ := hA1
      obtain ⟨x0, x1⟩ := hx1 i hil
      obtain ⟨q, cq, hmk, hwq, hq9, hfq⟩ := HF.out l[i] (List.getElem_mem hil)
      have HNX := Aside0.mk (firstB_take f l i hil)
      have HFM := Aside0.mk (HFB.out l[i])
      generalize l[i] = m at *
      obtain ⟨ma, mb2⟩ := m
      simp only at x0 x1
      have HFQ := Aside0.mk (And.intro hmk (And.intro hwq (And.intro hq9 hfq)))
      clear hx1 hmk hwq hq9 hfq hi
      go_upto_region 5 with fail
      have HA := below_alloc (Below.refl wr.heap.size wr) (.cells #[.int .i64 (ma : Int), .int .i64 (mb2 : Int)] 36)
      have HW5 := Aside0.mk (HR.out.below HA)
      have d0 : (wr.alloc (.cells #[.int .i64 (ma : Int), .int .i64 (mb2 : Int)] 36)).cell? ⟨wr.heap.size, 0, none⟩ = some (.int .i64 (ma : Int)) := by simp [World.cell?_alloc_at]
      have d1 : (wr.alloc (.cells #[.int .i64 (ma : Int), .int .i64 (mb2 : Int)] 36)).cell? ⟨wr.heap.size, 1, none⟩ = some (.int .i64 (mb2 : Int)) := by simp [World.cell?_alloc_at]
      have HGW := Aside0.mk (show W.heap.size ≤ wr.heap.size from HR.out.wf.ken.size)
      have HNB := Aside0.mk (show wr.heap.size ≠ rb from fun e => by have := HR.out.box.lt; omega)
      generalize wr.alloc (.cells #[.int .i64 (ma : Int), .int .i64 (mb2 : Int)] 36) = w5 at *
      generalize wr.heap.size = b11 at *
      clear HA HR x0 x1 hil
      obtain ⟨c0, c1, c2, c3⟩ := HW5.out.wf.box
      have HMK2 := Aside0.mk (HMK.out (mviOf (ma, mb2)) w5 (HT.out _ HW5.out.wf.ken))
      unfold MakeIs at HMK2
      rw [HFQ.out.1] at HMK2
      have HDD := Aside0.mk (And.intro d0 d1)
      go_wp2_with fail
      refine HMK2.out.mono ?_
      rintro e w6 ⟨rfl, hb⟩
      have HW6 := Aside0.mk (And.intro (HW5.out.below hb) (And.intro (pw_cell_below hb HDD.out.1) (pw_cell_below hb HDD.out.2)))
      clear hb d0 d1 c0 c1 c2 c3 HW5 HMK2 HDD
      go_upto_region 6 with fail
      have HQB := Aside0.mk (BoxP.new w6 q)
      have HL7 := Aside0.mk (below_alloc (Below.refl w6.heap.size w6) (.cells #[.string q.cells, .int .i64 q.side, .int .i64 q.clock, .int .i64 q.full] 23))
      have HW7 := Aside0.mk (And.intro (HW6.out.1.below HL7.out) (And.intro (pw_cell_below HL7.out HW6.out.2.1) (pw_cell_below HL7.out HW6.out.2.2)))
      generalize w6.alloc (.cells #[.string q.cells, .int .i64 q.side, .int .i64 q.clock, .int .i64 q.full] 23) = w7 at *
      generalize w6.heap.size = b12 at *
      clear HL7 HW6
      obtain ⟨e0, e1, e2, e3⟩ := HQB.out
      have r2 := HW7.out.1.box.r2
      have HC := Aside0.mk (HIH.out q (-s) c' left' w7 HFQ.out.2.1 HFQ.out.2.2.1 (by omega) (by omega) HROOM.out (by have := HLF.out.1; omega) (by have := HLF.out.2.2; omega) HW7.out.1.wf.fin (HT.out _ HW7.out.1.wf.ken))
      unfold WthIs at HC
      go_wp2_with fail
      refine HC.out.mono ?_
      rintro e w8 ⟨r, l2, c2', rfl, ⟨hr1, hr2⟩, hv, hl3, hfin, hken⟩
      rw [HLD.out] at hl3
      have HW8 := Aside0.mk (And.intro (HW7.out.1.call hfin hken) (And.intro (hken.cell HW7.out.2.1 (HW7.out.1.out HGW.out)) (hken.cell HW7.out.2.2 (HW7.out.1.out HGW.out))))
      have HLN := Aside0.mk (show l2 ≤ left ∧ left - (((i + 1) * L : Nat) : Int) ≤ l2 ∧ (c2' : Int) + l2 ≤ (c : Int) + left by
        have h2 : (i + 1) * L = i * L + L := Nat.succ_mul _ _
        have := HLF.out
        omega)
      have HNE2 := Aside0.mk (fun (h : 0 ≤ l2) => show RtOk (firstB f (l.take i)) ((d : Int) + 1) a b s D fd ∧ -r = max s (f (ma, mb2)) by
        have ho := HE.out (by omega)
        have hlt := ho.lt
        refine ⟨ho, ?_⟩
        rw [HFQ.out.2.2.2, hv h]
        have hw8 := worthS_le d q.cells q.side q.clock 1 (by omega)
        exact root_round hlt.1 hlt.2 hw8)
      clear hv hl3 hfin hken e0 e1 e2 e3 r2 HC HW7 HQB HROOM HE
      obtain ⟨d0, d1⟩ := HW8.out.2
      obtain ⟨r0, r1, r2, r3, r4, rf⟩ := HW8.out.1.box
      by_cases hgt : s < -r
      · have nb := HNB.out
        go_wp2_with fail
        have HX := Aside0.mk (HW8.out.1.put (ma : Int) (mb2 : Int) (-r) ((d : Int) + 1) true)
        go_roundg g
        case measure => omega
        case rel =>
          refine ⟨i + 1, ma, mb2, -r, (d : Int) + 1, true, l2, c2', by go_num, HIN.out, by omega, by omega, ⟨fun h => ?_⟩, HLN, HX⟩
          have h0 := HNE2.out h
          rw [HNX.out, h0.2]
          exact h0.1.more (ma, mb2) HFM.out (by omega)
      · clear d0 d1
        go_wp2_with fail
        go_roundg g
        case measure => omega
        case rel =>
          refine ⟨i + 1, a, b, s, D, fd, l2, c2', by go_num, HIN.out, hs1, hs2, ⟨fun h => ?_⟩, HLN, ⟨HW8.out.1⟩⟩
          have h0 := HNE2.out h
          rw [HNX.out]
          exact h0.1.same (ma, mb2) HFM.out (by omega)
end Go.Proofs.YtafmapadkpjliaaGreatDoor.K

/- search: is a move in a row: slices.Index, slices.Contains, the reference's Has. -/
namespace Go.Proofs.YtafmapadkpjliaaGreatDoor.K
open Go.RowKit Go.Lib Go.Proofs.YtafmapadkpjliaaGreatDoorW.PrintWords Go.Proofs.YtafmapadkpjliaaGreatDoorW.PrintLast Go.Proofs.YtafmapadkpjliaaGreatDoorW.PrintMore Go.Proofs.YtafmapadkpjliaaGreatDoor.Sp
set_option linter.unusedVariables false
set_option linter.unusedSimpArgs false
/-- Is it in the list? -/
def hasI (l : List Mvi) (m : Mvi) : Bool := l.any (fun x => x.frm == m.frm && x.dest == m.dest)
/-- A row of moves, read, in block g. -/
structure RowI (W : World) (g : Nat) (v : Value) (l : List Mvi) : Prop where mk ::
  out : ∃ A cap, v = .slice A l.length cap ∧ (l = [] ∨ ∃ o, A = some ⟨g, o, none⟩ ∧ ∀ i (h : i < l.length), W.cell? ⟨g, o + i * 2, none⟩ = some (.int .i64 l[i].frm) ∧ W.cell? ⟨g, o + i * 2 + 1, none⟩ = some (.int .i64 l[i].dest))
section
variable {W W' : World} {g : Nat} {v : Value} {l : List Mvi}
theorem RowI.ken {S : Nat → Prop} (h : RowI W g v l) (hk : Ken S W W') (hn : ¬ S g) : RowI W' g v l := by
  obtain ⟨A, cap, hv, h⟩ := h.out
  refine ⟨A, cap, hv, ?_⟩
  rcases h with h | ⟨o, hA, hx⟩
  · exact .inl h
  · exact .inr ⟨o, hA, fun i hi => ⟨hk.cell (hx i hi).1 hn, hk.cell (hx i hi).2 hn⟩⟩
theorem RowI.below (h : RowI W g v l) (hb : Below W.heap.size W W') : RowI W' g v l := h.ken (Ken.of_below hb (fun _ => False)) (fun h => h)
theorem RowI.form (h : RowI W g v l) : ∃ A cap, v = .slice A l.length cap := by
  obtain ⟨A, cap, hv, _⟩ := h.out
  exact ⟨A, cap, hv⟩
theorem RowI.at (h : RowI W g v l) (hl : l ≠ []) : ∃ o cap, v = .slice (some ⟨g, o, none⟩) l.length cap ∧ ∀ i (h : i < l.length), W.cell? ⟨g, o + i * 2, none⟩ = some (.int .i64 l[i].frm) ∧ W.cell? ⟨g, o + i * 2 + 1, none⟩ = some (.int .i64 l[i].dest) := by
  obtain ⟨A, cap, hv, h1 | ⟨o, rfl, h2⟩⟩ := h.out
  · exact absurd h1 hl
  · exact ⟨o, cap, hv, h2⟩
theorem RowI.nil (W : World) (g : Nat) : RowI W g (.slice none 0 0) [] := ⟨none, 0, rfl, .inl rfl⟩
end
theorem MvAt.rowI {W : World} {B : Nat} {v : Value} {l : List Mv} (h : MvAt W B v l) : ∃ g, RowI W g v (l.map mviOf) ∧ (l = [] ∨ v.ownBlock = some g) := by
  obtain ⟨A, cap, hv, h⟩ := h.out
  rcases h with h | ⟨g, hA, hB, hg, hx⟩
  · exact ⟨0, ⟨A, cap, by rw [hv, List.length_map], .inl (by rw [h]; rfl)⟩, .inl h⟩
  · refine ⟨g, ⟨A, cap, by rw [hv, List.length_map], .inr ⟨0, hA, fun i hi => ?_⟩⟩, .inr (by rw [hv, hA]; rfl)⟩
    rw [List.length_map] at hi
    rw [List.getElem_map]
    simpa using hx i hi
theorem hasI_mem (l : List Mv) (m : Mv) : hasI (l.map mviOf) (mviOf m) = decide (m ∈ l) := by
  unfold hasI
  rw [Bool.eq_iff_iff, decide_eq_true_eq, List.any_eq_true]
  constructor
  · rintro ⟨x, hx, h⟩
    obtain ⟨y, hy, rfl⟩ := List.mem_map.1 hx
    simp only [Bool.and_eq_true, beq_iff_eq] at h
    obtain ⟨y1, y2⟩ := y
    obtain ⟨m1, m2⟩ := m
    have e1 : (y1 : Int) = (m1 : Int) := h.1
    have e2 : (y2 : Int) = (m2 : Int) := h.2
    have : y1 = m1 := by omega
    have : y2 = m2 := by omega
    subst y1 y2
    exact hy
  · intro h
    exact ⟨mviOf m, List.mem_map.2 ⟨m, h, rfl⟩, by simp⟩
theorem hasI_no {l : List Mvi} {m : Mvi} (h : ∀ j (hj : j < l.length), (l[j].frm == m.frm && l[j].dest == m.dest) = false) : hasI l m = false := by
  unfold hasI
  rw [List.any_eq_false]
  intro x hx
  obtain ⟨j, hj, rfl⟩ := List.mem_iff_getElem.1 hx
  rw [h j hj]
  decide
theorem hasI_yes {l : List Mvi} {m : Mvi} (j : Nat) (hj : j < l.length) (h : (l[j].frm == m.frm && l[j].dest == m.dest) = true) : hasI l m = true := List.any_eq_true.2 ⟨_, List.getElem_mem hj, h⟩
/-- What stands between two rounds. -/
structure HiAt (w W : World) (g : Nat) (v : Value) (l : List Mvi) (m : Mvi) : Prop where
  row : RowI W g v l
  b0 : W.cell? ⟨w.heap.size, 0, none⟩ = some (.int .i64 m.frm)
  b1 : W.cell? ⟨w.heap.size, 1, none⟩ = some (.int .i64 m.dest)
  bel : Below w.heap.size w W
theorem HiAt.below {w W W' : World} {g : Nat} {v : Value} {l : List Mvi} {m : Mvi} (h : HiAt w W g v l m) (hb : Below W.heap.size W W') : HiAt w W' g v l m := ⟨h.row.below hb, below_cell hb _ _ _ h.b0, below_cell hb _ _ _ h.b1, below_go h.bel hb⟩
theorem HiAt.start {w : World} {g : Nat} {v : Value} {l : List Mvi} (m : Mvi) (h : RowI w g v l) : HiAt w (w.alloc (.cells #[.int .i64 m.frm, .int .i64 m.dest] 36)) g v l m :=
  ⟨h.below (below_alloc (Below.refl _ _) _), by simp [World.cell?_alloc_at], by simp [World.cell?_alloc_at], below_alloc (Below.refl _ _) _⟩
def IndexIs (l : List Mvi) (m : Mvi) (w : World) (e : Ending) (w' : World) : Prop := ∃ r : Int, e = .returned (.int .i64 r) ∧ (-1 ≤ r ∧ r ≤ 10000) ∧ decide (0 ≤ r) = hasI l m ∧ Below w.heap.size w w'
set_option maxRecDepth 100000 in
set_option maxHeartbeats 2000000 in
theorem index_c (l : List Mvi) (m : Mvi) (hl : l.length ≤ 10000) (g : Nat) (v : Value) (w : World) (h : RowI w g v l) :
    Calls Tryz.prog 66 #[v, mviV m] w (IndexIs l m w) := by
  have hu := Tryz.underlying36
  obtain ⟨A, cap, rfl⟩ := h.form
  have HX := Aside0.mk (HiAt.start m h)
  have HLL := Aside0.mk hl
  have HEND := Aside0.mk (fun (r : Int) (w' : World) (h1 : -1 ≤ r ∧ r ≤ 10000) (h2 : decide (0 ≤ r) = hasI l m) (h3 : Below w.heap.size w w') => show IndexIs l m w (.returned (.int .i64 r)) w' from ⟨r, rfl, h1, h2, h3⟩)
  obtain ⟨ma, mb⟩ := m
  clear h hl
  go_enter Tryz.func66, Tryz.ntmps66
  go_upto_region 1 with fail
  generalize w.alloc (.cells #[.int .i64 ma, .int .i64 mb] 36) = W1 at *
  go_wp2_with fail
  go_loopg [8] l.length (fun gg s8 wr => ∃ i : Nat, s8 = .int .i64 i ∧ i + gg = l.length ∧ Aside0 (HiAt w wr g (.slice A l.length cap) l ⟨ma, mb⟩) ∧ Aside0 (∀ j (hj : j < l.length), j < i → (l[j].frm == ma && l[j].dest == mb) = false))
  case atStart => exact ⟨0, rfl, by omega, HX, ⟨fun j hj h => by omega⟩⟩
  case round =>
    clear HX
    obtain ⟨i, rfl, hi, HX, HN⟩ := hrel
    cases gk with
    | zero =>
      have hn : ¬ ((i : Int) < (l.length : Int)) := by omega
      have HI := Aside0.mk (show i = l.length by omega)
      clear hi
      go_wp2_with fail
      go_ret
      exact HEND.out (-1) _ (by omega) (by rw [hasI_no (fun j hj => HN.out j hj (by have := HI.out; omega))]; rfl) HX.out.bel
    | succ k =>
      have hn : (i : Int) < (l.length : Int) := by omega
      have hil : i < l.length := by omega
      have hib : (i : Int) ≤ 10000 := by have := HLL.out; omega
      have HI := Aside0.mk (show i + 1 + k = l.length by omega)
      obtain ⟨o, cap1', hA1, hx1⟩ := HX.out.row.at (fun h => by rw [h] at hil; simp at hil)
      simp only [Value.slice.injEq, true_and] at hA1
      obtain ⟨rfl, rfl⟩ := hA1
      obtain ⟨x0, x1⟩ := hx1 i hil
      have HYES := Aside0.mk (fun (h : (l[i].frm == ma && l[i].dest == mb) = true) => hasI_yes (m := ⟨ma, mb⟩) i hil h)
      have HNN := Aside0.mk (fun (hne : (l[i].frm == ma && l[i].dest == mb) = false) j (hj : j < l.length) (h : j < i + 1) => show (l[j].frm == ma && l[j].dest == mb) = false by
        by_cases h2 : j = i
        · subst h2; exact hne
        · exact HN.out j hj (by omega))
      clear hx1 hi
      generalize l[i] = m at *
      obtain ⟨la, lb⟩ := m
      simp only at x0 x1
      have y0 := HX.out.b0
      have y1 := HX.out.b1
      simp only at y0 y1
      clear hil
      cases h1 : (la == ma)
      all_goals cases h2 : (lb == mb)
      all_goals
        have h3 : (ma == la) = (la == ma) := by rw [Bool.eq_iff_iff, beq_iff_eq, beq_iff_eq]; exact eq_comm
        have h4 : (mb == lb) = (lb == mb) := by rw [Bool.eq_iff_iff, beq_iff_eq, beq_iff_eq]; exact eq_comm
        rw [h1] at h3
        rw [h2] at h4
        have H1 := Aside0.mk (And.intro h1 h2)
        go_wp2_with fail
        go_quiet (fail)
        go_wp2_with fail
        first
        | (go_ret
           exact HEND.out _ _ (by omega) (by rw [HYES.out (by rw [H1.out.1, H1.out.2]; rfl)]; simp) (pw_below_drewN HX.out.bel _))
        | (go_roundg k
           case measure => omega
           case rel => exact ⟨i + 1, by go_num, by have := HI.out; omega, ⟨HX.out.below (pw_below_drewN (Below.refl _ _) _)⟩, ⟨HNN.out (by rw [H1.out.1, H1.out.2]; rfl)⟩⟩)
set_option maxRecDepth 100000 in
set_option maxHeartbeats 2000000 in
theorem contains_c (l : List Mvi) (m : Mvi) (hl : l.length ≤ 10000) (g : Nat) (v : Value) (w : World) (h : RowI w g v l) :
    Calls Tryz.prog 37 #[v, mviV m] w fun e w' => e = .returned (.bool (hasI l m)) ∧ Below w.heap.size w w' := by
  have hu := Tryz.underlying36
  have HX := Aside0.mk (HiAt.start m h)
  have HIX := Aside0.mk (fun (W : World) (h : RowI W g v l) => index_c l m hl g v W h)
  unfold IndexIs at HIX
  obtain ⟨ma, mb⟩ := m
  clear h hl
  generalize hasI l ⟨ma, mb⟩ = b at *
  go_enter Tryz.func37, Tryz.ntmps37
  go_upto_region 1 with fail
  generalize w.alloc (.cells #[.int .i64 ma, .int .i64 mb] 36) = W1 at *
  have y0 := HX.out.b0
  have y1 := HX.out.b1
  simp only at y0 y1
  go_wp2_with fail
  refine (HIX.out _ HX.out.row).mono ?_
  rintro e w2 ⟨r, rfl, ⟨h1, h2⟩, h3, hb⟩
  have HB := Aside0.mk (And.intro h3 (below_go HX.out.bel hb))
  clear h3 hb
  go_wp2_with fail
  go_ret
  exact ⟨ret_bool HB.out.1, HB.out.2⟩
set_option maxRecDepth 100000 in
set_option maxHeartbeats 2000000 in
theorem rhas_c (l : List Mvi) (m : Mvi) (hl : l.length ≤ 10000) (g : Nat) (v : Value) (w : World) (h : RowI w g v l) :
    Calls Tryz.prog 26 #[v, mviV m] w fun e w' => e = .returned (.bool (hasI l m)) ∧ Below w.heap.size w w' := by
  have hu := Tryz.underlying36
  obtain ⟨A, cap, rfl⟩ := h.form
  have HX := Aside0.mk (HiAt.start m h)
  have HLL := Aside0.mk hl
  obtain ⟨ma, mb⟩ := m
  clear h hl
  go_enter Tryz.func26, Tryz.ntmps26
  go_upto_region 1 with fail
  generalize w.alloc (.cells #[.int .i64 ma, .int .i64 mb] 36) = W1 at *
  go_wp2_with fail
  go_loopg [5] l.length (fun gg s8 wr => ∃ i : Nat, s8 = .int .i64 i ∧ i + gg = l.length ∧ Aside0 (HiAt w wr g (.slice A l.length cap) l ⟨ma, mb⟩) ∧ Aside0 (∀ j (hj : j < l.length), j < i → (l[j].frm == ma && l[j].dest == mb) = false))
  case atStart => exact ⟨0, rfl, by omega, HX, ⟨fun j hj h => by omega⟩⟩
  case round =>
    clear HX
    obtain ⟨i, rfl, hi, HX, HN⟩ := hrel
    cases gk with
    | zero =>
      have hn : ¬ ((i : Int) < (l.length : Int)) := by omega
      have HI := Aside0.mk (show i = l.length by omega)
      clear hi
      go_wp2_with fail
      go_ret
      exact ⟨ret_bool (hasI_no (m := ⟨ma, mb⟩) (fun j hj => HN.out j hj (by have := HI.out; omega))).symm, HX.out.bel⟩
    | succ k =>
      have hn : (i : Int) < (l.length : Int) := by omega
      have hil : i < l.length := by omega
      have hib : (i : Int) ≤ 10000 := by have := HLL.out; omega
      have HI := Aside0.mk (show i + 1 + k = l.length by omega)
      obtain ⟨o, cap1', hA1, hx1⟩ := HX.out.row.at (fun h => by rw [h] at hil; simp at hil)
      simp only [Value.slice.injEq, true_and] at hA1
      obtain ⟨rfl, rfl⟩ := hA1
      obtain ⟨x0, x1⟩ := hx1 i hil
      have HYES := Aside0.mk (fun (h : (l[i].frm == ma && l[i].dest == mb) = true) => hasI_yes (m := ⟨ma, mb⟩) i hil h)
      have HNN := Aside0.mk (fun (hne : (l[i].frm == ma && l[i].dest == mb) = false) j (hj : j < l.length) (h : j < i + 1) => show (l[j].frm == ma && l[j].dest == mb) = false by
        by_cases h2 : j = i
        · subst h2; exact hne
        · exact HN.out j hj (by omega))
      clear hx1 hi
      generalize l[i] = m at *
      obtain ⟨la, lb⟩ := m
      simp only at x0 x1
      have y0 := HX.out.b0
      have y1 := HX.out.b1
      simp only at y0 y1
      clear hil
      cases h1 : (la == ma)
      all_goals cases h2 : (lb == mb)
      all_goals
        have h3 : (ma == la) = (la == ma) := by rw [Bool.eq_iff_iff, beq_iff_eq, beq_iff_eq]; exact eq_comm
        have h4 : (mb == lb) = (lb == mb) := by rw [Bool.eq_iff_iff, beq_iff_eq, beq_iff_eq]; exact eq_comm
        rw [h1] at h3
        rw [h2] at h4
        have H1 := Aside0.mk (And.intro h1 h2)
        go_wp2_with fail
        go_quiet (fail)
        go_wp2_with fail
        first
        | (go_ret
           exact ⟨ret_bool (HYES.out (by rw [H1.out.1, H1.out.2]; rfl)).symm, pw_below_drewN HX.out.bel _⟩)
        | (go_roundg k
           case measure => omega
           case rel => exact ⟨i + 1, by go_num, by have := HI.out; omega, ⟨HX.out.below (pw_below_drewN (Below.refl _ _) _)⟩, ⟨HNN.out (by rw [H1.out.1, H1.out.2]; rfl)⟩⟩)
end Go.Proofs.YtafmapadkpjliaaGreatDoor.K

/- search: begin. -/
namespace Go.Proofs.YtafmapadkpjliaaGreatDoor.K
open Go.RowKit Go.Lib Go.Proofs.YtafmapadkpjliaaGreatDoorW.PrintWords Go.Proofs.YtafmapadkpjliaaGreatDoorW.PrintLast Go.Proofs.YtafmapadkpjliaaGreatDoorW.PrintMore Go.Proofs.YtafmapadkpjliaaGreatDoor.Sp
set_option linter.unusedVariables false
set_option linter.unusedSimpArgs false
/-- What is wrong with what is asked. -/
def begE (p : Pos) (D least : Int) (M : List Mvi) : Int :=
  if wellS p ≠ 0 then wellS p else if D < least ∨ 64 < D then 1 else if M.all (fun m => hasI ((legalL p).map mviOf) m) = true then 0 else 7
/-- The moves to look at. -/
def begL (p : Pos) (M : List Mvi) : List Mv := if M = [] then legalL p else (legalL p).filter (fun m => hasI M (mviOf m))
/-- What begin answers. -/
def BegIs (p : Pos) (D least : Int) (M : List Mvi) (W : World) (e : Ending) (w' : World) : Prop :=
  ∃ vr : Value, e = .returned (.tuple #[vr, .int .i64 (begE p D least M)]) ∧ (begE p D least M = 0 → OwnM w' W.heap.size vr (begL p M)) ∧ Below W.heap.size W w'
theorem RowI.lt {W : World} {g : Nat} {v : Value} {l : List Mvi} (h : RowI W g v l) (hl : l ≠ []) : g < W.heap.size := by
  obtain ⟨o, cap, _, hx⟩ := h.at hl
  exact World.block_lt_of_cell? W _ (hx 0 (List.length_pos_iff.2 hl)).1
/-- begin's boxes. -/
structure BgAt (W0 W : World) (p : Pos) (g : Nat) (v : Value) (M : List Mvi) : Prop where
  box : BoxP W W0.heap.size p
  sl : W.cell? ⟨W0.heap.size + 1, 0, none⟩ = some v
  row : RowI W g v M
  bel : Below W0.heap.size W0 W
theorem BgAt.below {W0 W W' : World} {p : Pos} {g : Nat} {v : Value} {M : List Mvi} (h : BgAt W0 W p g v M) (hb : Below W.heap.size W W') : BgAt W0 W' p g v M := ⟨h.box.below hb, below_cell hb _ _ _ h.sl, h.row.below hb, below_go h.bel hb⟩
theorem BgAt.start {W : World} {g : Nat} {v : Value} {M : List Mvi} (p : Pos) (h : RowI W g v M) : BgAt W ((W.alloc (.cells #[.string p.cells, .int .i64 p.side, .int .i64 p.clock, .int .i64 p.full] 23)).alloc (.cells #[v] 29)) p g v M :=
  have h1 := below_alloc (Below.refl W.heap.size W) (.cells #[.string p.cells, .int .i64 p.side, .int .i64 p.clock, .int .i64 p.full] 23)
  ⟨(BoxP.new W p).below (below_alloc (Below.refl _ _) _), by simp [World.cell?_alloc_at], h.below (below_alloc h1 _), below_alloc h1 _⟩
theorem BgAt.lt {W0 W : World} {p : Pos} {g : Nat} {v : Value} {M : List Mvi} (h : BgAt W0 W p g v M) : W0.heap.size + 2 ≤ W.heap.size := World.block_lt_of_cell? W ⟨W0.heap.size + 1, 0, none⟩ h.sl
/-- begin's closure: is it none of the moves? -/
theorem beg1_c (M : List Mvi) (m : Mv) (hM : M.length ≤ 10000) (g B : Nat) (v : Value) (w : World) (hv : w.cell? ⟨B, 0, none⟩ = some v) (h : RowI w g v M) :
    Calls Tryz.prog 39 #[mvV m, .pointer (some ⟨B, 0, none⟩)] w fun e w' => e = .returned (.bool (!hasI M (mviOf m))) ∧ Below w.heap.size w w' := by
  have hu := Tryz.underlying36
  have hu2 := Tryz.underlying29
  have HC := Aside0.mk (fun (W : World) (h : RowI W g v M) => contains_c M (mviOf m) hM g v W h)
  have HA := below_alloc (Below.refl w.heap.size w) (.cells #[.int .i64 (m.1 : Int), .int .i64 (m.2 : Int)] 36)
  have HX := Aside0.mk (And.intro (h.below HA) HA)
  have hv1 := below_cell HA _ _ _ hv
  have d0 : (w.alloc (.cells #[.int .i64 (m.1 : Int), .int .i64 (m.2 : Int)] 36)).cell? ⟨w.heap.size, 0, none⟩ = some (.int .i64 (m.1 : Int)) := by simp [World.cell?_alloc_at]
  have d1 : (w.alloc (.cells #[.int .i64 (m.1 : Int), .int .i64 (m.2 : Int)] 36)).cell? ⟨w.heap.size, 1, none⟩ = some (.int .i64 (m.2 : Int)) := by simp [World.cell?_alloc_at]
  obtain ⟨A, cap, rfl⟩ := h.form
  generalize hasI M (mviOf m) = b at *
  clear hv h HA hM
  go_enter Tryz.func39, Tryz.ntmps39
  go_upto_region 1 with fail
  generalize w.alloc (.cells #[.int .i64 (m.1 : Int), .int .i64 (m.2 : Int)] 36) = W1 at *
  go_wp2_with fail
  refine (HC.out _ HX.out.1).mono ?_
  rintro e w2 ⟨rfl, hb⟩
  have HB := Aside0.mk (below_go HX.out.2 hb)
  clear hb d0 d1 hv1
  go_wp2_with fail
  go_ret
  exact ⟨rfl, HB.out⟩
theorem begE_well {p : Pos} {D least : Int} {M : List Mvi} (h : wellS p ≠ 0) : begE p D least M = wellS p := if_pos h
theorem begE_arg {p : Pos} {D least : Int} {M : List Mvi} (h : wellS p = 0) (h2 : D < least ∨ 64 < D) : begE p D least M = 1 := by
  unfold begE; rw [if_neg (by simpa using h), if_pos h2]
theorem begE_ok {p : Pos} {D least : Int} {M : List Mvi} (h : wellS p = 0) (h2 : ¬ (D < least ∨ 64 < D)) (h3 : ∀ j (hj : j < M.length), hasI ((legalL p).map mviOf) M[j] = true) : begE p D least M = 0 := by
  unfold begE; rw [if_neg (by simpa using h), if_neg h2, if_pos]
  rw [List.all_eq_true]
  intro x hx
  obtain ⟨j, hj, rfl⟩ := List.mem_iff_getElem.1 hx
  exact h3 j hj
theorem begE_move {p : Pos} {D least : Int} {M : List Mvi} (h : wellS p = 0) (h2 : ¬ (D < least ∨ 64 < D)) (j : Nat) (hj : j < M.length) (h3 : hasI ((legalL p).map mviOf) M[j] = false) : begE p D least M = 7 := by
  unfold begE; rw [if_neg (by simpa using h), if_neg h2, if_neg]
  intro ha
  rw [List.all_eq_true] at ha
  have := ha _ (List.getElem_mem hj)
  rw [h3] at this
  cases this
set_option maxRecDepth 100000 in
set_option maxHeartbeats 4000000 in
theorem begin_c (p : Pos) (D least : Int) (M : List Mvi) (hM : M.length ≤ 10000) (g : Nat) (v : Value) (W : World) (hr : RowI W g v M) (hT : TabW W) :
    Calls Tryz.prog 21 #[posV p, .int .i64 D, .int .i64 least, v] W (BegIs p D least M W) := by
  have HT := Aside0.mk (fun (W' : World) (hb : Below W.heap.size W W') => hT.below hb)
  have HWL := Aside0.mk (fun (W' : World) (hT : TabW W') => well_c p W' hT)
  have hu := Tryz.underlying23
  have hu2 := Tryz.underlying36
  have hu3 := Tryz.underlying29
  have HB0 := Aside0.mk (BgAt.start p hr)
  obtain ⟨A, cap, rfl⟩ := hr.form
  by_cases hw : wellS p = 0
  case neg =>
    have hn : (wellS p != 0) = true := by simpa using hw
    have HEND := Aside0.mk (fun (w' : World) (hb : Below W.heap.size W w') => show BegIs p D least M W (.returned (.tuple #[.slice none 0 0, .int .i64 (wellS p)])) w' from ⟨_, by rw [begE_well hw], fun h => absurd h (by rw [begE_well hw]; exact hw), hb⟩)
    generalize wellS p = x at *
    clear hw hr hT hM
    go_enter Tryz.func21, Tryz.ntmps21
    go_upto_region 1 with fail
    generalize (W.alloc (.cells #[.string p.cells, .int .i64 p.side, .int .i64 p.clock, .int .i64 p.full] 23)).alloc (.cells #[.slice A M.length cap] 29) = W1 at *
    obtain ⟨c0, c1, c2, c3⟩ := HB0.out.box
    go_wp2_with fail
    refine (HWL.out _ (HT.out _ HB0.out.bel)).mono ?_
    rintro e w1 ⟨rfl, hb⟩
    have H1 := Aside0.mk (HB0.out.below hb)
    clear hb c0 c1 c2 c3
    go_wp2_with fail
    go_ret2
    exact HEND.out _ H1.out.bel
  case pos =>
    by_cases hd : D < least ∨ 64 < D
    · have HEND := Aside0.mk (fun (w' : World) (hb : Below W.heap.size W w') => show BegIs p D least M W (.returned (.tuple #[.slice none 0 0, .int .i64 1])) w' from ⟨_, by rw [begE_arg hw hd], fun h => absurd h (by rw [begE_arg hw hd]; decide), hb⟩)
      rw [hw] at HWL
      clear hw hr hT hM
      by_cases hd1 : D < least
      · clear hd
        go_enter Tryz.func21, Tryz.ntmps21
        go_upto_region 1 with fail
        generalize (W.alloc (.cells #[.string p.cells, .int .i64 p.side, .int .i64 p.clock, .int .i64 p.full] 23)).alloc (.cells #[.slice A M.length cap] 29) = W1 at *
        obtain ⟨c0, c1, c2, c3⟩ := HB0.out.box
        go_wp2_with fail
        refine (HWL.out _ (HT.out _ HB0.out.bel)).mono ?_
        rintro e w1 ⟨rfl, hb⟩
        have H1 := Aside0.mk (HB0.out.below hb)
        clear hb c0 c1 c2 c3
        go_wp2_with fail
        go_ret2
        exact HEND.out _ H1.out.bel
      · have hd2 : 64 < D := hd.resolve_left hd1
        clear hd
        go_enter Tryz.func21, Tryz.ntmps21
        go_upto_region 1 with fail
        generalize (W.alloc (.cells #[.string p.cells, .int .i64 p.side, .int .i64 p.clock, .int .i64 p.full] 23)).alloc (.cells #[.slice A M.length cap] 29) = W1 at *
        obtain ⟨c0, c1, c2, c3⟩ := HB0.out.box
        go_wp2_with fail
        refine (HWL.out _ (HT.out _ HB0.out.bel)).mono ?_
        rintro e w1 ⟨rfl, hb⟩
        have H1 := Aside0.mk (HB0.out.below hb)
        clear hb c0 c1 c2 c3
        go_wp2_with fail
        go_ret2
        exact HEND.out _ H1.out.bel
    · have hd1 : ¬ D < least := fun h => hd (.inl h)
      have hd2 : ¬ 64 < D := fun h => hd (.inr h)
      have HM := Aside0.mk (fun (W : World) (hT : TabW W) => lmoves_c p W hT)
      have HOK := Aside0.mk (fun (h3 : ∀ j (hj : j < M.length), hasI ((legalL p).map mviOf) M[j] = true) => begE_ok (D := D) (least := least) hw hd h3)
      have HMV := Aside0.mk (fun (j : Nat) (hj : j < M.length) (h3 : hasI ((legalL p).map mviOf) M[j] = false) => begE_move (D := D) (least := least) hw hd j hj h3)
      have HLN := Aside0.mk (show ((legalL p).map mviOf).length ≤ 10000 by rw [List.length_map]; exact Nat.le_trans (legal_len2 p) (by decide))
      have HLL := Aside0.mk (show (legalL p).length ≤ 1000000 from Nat.le_trans (legal_len2 p) (by decide))
      have HIN := Aside0.mk (fun (m : Mvi) (g : Nat) (v : Value) (W : World) (h : RowI W g v ((legalL p).map mviOf)) => contains_c ((legalL p).map mviOf) m HLN.out g v W h)
      have HGL := Aside0.mk (fun (hne : M ≠ []) => hr.lt hne)
      have HML := Aside0.mk hM
      have HD := Aside0.mk (fun (v1 : Value) (W1 : World) (h : BgAt W W1 p g (.slice A M.length cap) M) (ho : OwnM W1 (W.heap.size + 2) v1 (legalL p)) (hne : M ≠ []) =>
        del_M 39 #[.pointer (some ⟨W.heap.size + 1, 0, none⟩)] (fun m => !hasI M (mviOf m)) (enters_of Tryz.func39 (by kernel_rfl) rfl) (W.heap.size + 2) v1 (legalL p) W1 h.lt ho HLL.out (by
          intro b hb _ _ W2 m hm hk
          have hk2 := hk
          exact beg1_c M m hM g (W.heap.size + 1) _ W2 (keep_cell2 hk (by omega) h.sl) (by
            obtain ⟨A2, cap2, hv, h0 | ⟨o, hA, hx⟩⟩ := h.row.out
            · exact absurd h0 hne
            · have hgb : g ≠ b := by have := HGL.out hne; omega
              exact ⟨A2, cap2, hv, .inr ⟨o, hA, fun i hi => ⟨keep_cell2 hk hgb (hx i hi).1, keep_cell2 hk hgb (hx i hi).2⟩⟩⟩)))
      have HNIL := Aside0.mk (show M = [] → begL p M = legalL p from fun h => if_pos h)
      have HFIL := Aside0.mk (show M ≠ [] → begL p M = (legalL p).filter (fun m => !!hasI M (mviOf m)) from fun h => by unfold begL; rw [if_neg h]; congr 1; funext m; simp)
      rw [hw] at HWL
      have HBE := Aside0.mk (fun (vr : Value) (x : Int) (w' : World) (h1 : begE p D least M = x) (h2 : x = 0 → OwnM w' W.heap.size vr (begL p M)) (h3 : Below W.heap.size W w') => show BegIs p D least M W (.returned (.tuple #[vr, .int .i64 x])) w' from ⟨vr, by rw [h1], fun h => h2 (by rw [← h1]; exact h), h3⟩)
      generalize begE p D least M = E at *
      generalize begL p M = BL at *
      generalize legalL p = l at *
      clear hw hd hr hT hM
      go_enter Tryz.func21, Tryz.ntmps21
      go_upto_region 1 with fail
      generalize (W.alloc (.cells #[.string p.cells, .int .i64 p.side, .int .i64 p.clock, .int .i64 p.full] 23)).alloc (.cells #[.slice A M.length cap] 29) = W1 at *
      obtain ⟨c0, c1, c2, c3⟩ := HB0.out.box
      go_wp2_with fail
      refine (HWL.out _ (HT.out _ HB0.out.bel)).mono ?_
      rintro e w1 ⟨rfl, hb⟩
      have H1 := Aside0.mk (HB0.out.below hb)
      clear hb c0 c1 c2 c3 HB0
      obtain ⟨c0, c1, c2, c3⟩ := H1.out.box
      go_wp2_with fail
      refine (HM.out _ (HT.out _ H1.out.bel)).mono ?_
      rintro e w2 ⟨v1, rfl, ho, hb⟩
      have H2 := Aside0.mk (And.intro (H1.out.below hb) (OwnM.lower ho H1.out.lt))
      clear ho hb c0 c1 c2 c3 H1 HM HWL
      have sl := H2.out.1.sl
      go_wp2_with fail
      go_loopg [30] M.length (fun gg s30 wr => ∃ i : Nat, s30 = .int .i64 (i : Int) ∧ i + gg = M.length ∧ Aside0 (∀ j (hj : j < M.length), j < i → hasI (l.map mviOf) M[j] = true) ∧ Aside0 (BgAt W wr p g (.slice A M.length cap) M ∧ OwnM wr (W.heap.size + 2) v1 l))
      case atStart => exact ⟨0, rfl, by omega, ⟨fun j hj h => by omega⟩, H2⟩
      case round =>
        clear H2 sl
        obtain ⟨i, rfl, hi, HA, H2⟩ := hrel
        cases gk with
        | zero =>
          have hn : ¬ ((i : Int) < (M.length : Int)) := by omega
          have HE0 := Aside0.mk (HOK.out (fun j hj => HA.out j hj (by omega)))
          have sl := H2.out.1.sl
          clear hi
          by_cases hne : M = []
          · have hz : ¬ ((0 : Int) < (M.length : Int)) := by rw [hne]; simp
            have HNB := Aside0.mk (HNIL.out hne)
            clear hne
            go_wp2_with fail
            go_ret2
            exact HBE.out _ 0 _ HE0.out (fun _ => by rw [HNB.out]; exact OwnM.lower H2.out.2 (by omega)) H2.out.1.bel
          · have hz : (0 : Int) < (M.length : Int) := by have := List.length_pos_iff.2 hne; omega
            have HNB := Aside0.mk (HFIL.out hne)
            have HDD := Aside0.mk (HD.out v1 wr H2.out.1 H2.out.2 hne)
            clear hne
            go_wp2_with fail
            refine HDD.out.mono ?_
            rintro e w3 ⟨v3, rfl, ho, hb⟩
            have H3 := Aside0.mk (And.intro ho (H2.out.1.bel.trans (hb.mono (by omega))))
            clear ho hb sl
            go_wp2_with fail
            go_ret2
            exact HBE.out _ 0 _ HE0.out (fun _ => by rw [HNB.out]; exact OwnM.lower H3.out.1 (by omega)) H3.out.2
        | succ k =>
          have hn : (i : Int) < (M.length : Int) := by omega
          have hil : i < M.length := by omega
          have hib : (i : Int) ≤ 10000 := by have := HML.out; omega
          have HI := Aside0.mk (show i + 1 + k = M.length by omega)
          obtain ⟨o, cap1', hA1, hx1⟩ := H2.out.1.row.at (fun h => by rw [h] at hil; simp at hil)
          simp only [Value.slice.injEq, true_and] at hA1
          obtain ⟨rfl, rfl⟩ := hA1
          obtain ⟨x0, x1⟩ := hx1 i hil
          have HNO := Aside0.mk (fun (h : hasI (l.map mviOf) M[i] = false) => HMV.out i hil h)
          have HNN := Aside0.mk (fun (h : hasI (l.map mviOf) M[i] = true) j (hj : j < M.length) (h2 : j < i + 1) => show hasI (l.map mviOf) M[j] = true by
            by_cases h3 : j = i
            · subst h3; exact h
            · exact HA.out j hj (by omega))
          clear hx1 hi
          generalize M[i] = m at *
          have HINM := Aside0.mk (fun (g : Nat) (v : Value) (W : World) (h : RowI W g v (l.map mviOf)) => HIN.out m g v W h)
          obtain ⟨ma, mb⟩ := m
          simp only at x0 x1
          clear hil
          go_upto_region 10 with fail
          have HAL := below_alloc (Below.refl wr.heap.size wr) (.cells #[.int .i64 ma, .int .i64 mb] 36)
          have H3 := Aside0.mk (And.intro (H2.out.1.below HAL) (H2.out.2.below HAL))
          have d0 : (wr.alloc (.cells #[.int .i64 ma, .int .i64 mb] 36)).cell? ⟨wr.heap.size, 0, none⟩ = some (.int .i64 ma) := by simp [World.cell?_alloc_at]
          have d1 : (wr.alloc (.cells #[.int .i64 ma, .int .i64 mb] 36)).cell? ⟨wr.heap.size, 1, none⟩ = some (.int .i64 mb) := by simp [World.cell?_alloc_at]
          obtain ⟨g9, hr9, _⟩ := H3.out.2.reads.rowI
          have HCC := Aside0.mk (HINM.out g9 v1 _ hr9)
          clear HAL hr9 x0 x1
          generalize wr.alloc (.cells #[.int .i64 ma, .int .i64 mb] 36) = w5 at *
          generalize hasI (l.map mviOf) ⟨ma, mb⟩ = bb at *
          go_wp2_with fail
          refine HCC.out.mono ?_
          rintro e w6 ⟨rfl, hb⟩
          have H6 := Aside0.mk (And.intro (H3.out.1.below hb) (H3.out.2.below hb))
          clear hb d0 d1
          cases bb
          case true =>
            go_wp2_with fail
            go_roundg k
            case measure => omega
            case rel => exact ⟨i + 1, by go_num, by have := HI.out; omega, ⟨HNN.out (by simp)⟩, H6⟩
          case false =>
            go_wp2_with fail
            go_ret2
            exact HBE.out _ 7 _ (HNO.out (by simp)) (fun h => absurd h (by decide)) H6.out.1.bel
end Go.Proofs.YtafmapadkpjliaaGreatDoor.K

/- search: find; Best. -/
namespace Go.Proofs.YtafmapadkpjliaaGreatDoor.K
open Go.RowKit Go.Lib Go.Proofs.YtafmapadkpjliaaGreatDoorW.PrintWords Go.Proofs.YtafmapadkpjliaaGreatDoorW.PrintLast Go.Proofs.YtafmapadkpjliaaGreatDoorW.PrintMore Go.Proofs.YtafmapadkpjliaaGreatDoor.Sp
set_option linter.unusedVariables false
set_option linter.unusedSimpArgs false
/-- What find owes: a finder, its blocks new but for those of S. -/
def FindC (S : Nat → Prop) (R : Nat → Nat → Prop) (tv : Value) (most : Int) (C : Nat) (W : World) : Prop :=
  ∀ W1, Below W.heap.size W W1 → Calls Tryz.prog 22 #[tv, .int .i64 most] W1 fun e w' => ∃ fb tb sb c, e = .returned (.pointer (some ⟨fb, 0, none⟩)) ∧ FinAt w' fb tb sb c most ∧ c ≤ C ∧ (∀ k, FinS fb tb sb k → (S k ∧ k < W.heap.size) ∨ W1.heap.size ≤ k) ∧ R tb sb ∧ Below W1.heap.size W1 w'
theorem FinAt.make {W : World} {tb sb n c : Nat} {T : Nat → Option P.Ent} (ht : P.TabAt W tb sb n T c) (most : Int) (h1 : 1 < W.heap.size) (h2 : 1 ≠ tb) (h3 : 1 ≠ sb) :
    FinAt (W.alloc (.cells #[.pointer (some ⟨tb, 0, none⟩), .int .i64 most] 67)) W.heap.size tb sb c most := by
  obtain ⟨l1, l2⟩ := ht.lt
  exact ⟨by simp [World.cell?_alloc_at], by simp [World.cell?_alloc_at], World.frozen?_alloc_at _ _ _ 1 rfl, ⟨n, T, ht.below (below_alloc (Below.refl _ _) _)⟩, by omega, by omega, by omega, h2, h3⟩
set_option maxHeartbeats 1000000 in
theorem find_nil (most : Int) (W : World) (hT : TabW W) : FindC (fun _ => False) (fun _ _ => True) (.pointer none) most 0 W := by
  intro W1 hb1
  have hg := (hT.below hb1).lt
  have HN := Aside0.mk (fun w => P.new_walk w 1024 (by decide) (by decide))
  have HG := Aside0.mk hg
  clear hg hT hb1
  go_enter Tryz.func22, Tryz.ntmps22
  go_wp2_with fail
  refine (HN.out _).mono ?_
  rintro e w2 ⟨rfl, ht, hb⟩
  have HL := Aside0.mk (And.intro ht (And.intro hb hb.size))
  clear ht hb
  go_wp2_with fail
  go_ret
  have hs := HL.out.2.2
  have hg := HG.out
  refine ⟨_, _, _, 0, rfl, FinAt.make HL.out.1 most (by omega) (by omega) (by omega), Nat.le_refl _, ?_, trivial, below_new HL.out.2.1 _⟩
  rintro k (rfl | rfl | rfl) <;> exact .inr (by omega)
set_option maxHeartbeats 1000000 in
theorem find_tab (most : Int) (W : World) (hT : TabW W) (tb sb n c : Nat) (T : Nat → Option P.Ent) (ht : P.TabAt W tb sb n T c) (h2 : 1 ≠ tb) (h3 : 1 ≠ sb) : FindC (fun k => k = tb ∨ k = sb) (fun x y => x = tb ∧ y = sb) (.pointer (some ⟨tb, 0, none⟩)) most c W := by
  intro W1 hb1
  have hg := (hT.below hb1).lt
  obtain ⟨l1, l2⟩ := ht.lt
  have HL := Aside0.mk (And.intro (ht.below hb1) (And.intro hg (And.intro h2 (And.intro h3 (And.intro l1 l2)))))
  clear hg hT hb1 ht h2 h3 l1 l2
  go_enter Tryz.func22, Tryz.ntmps22
  go_wp2_with fail
  go_ret
  refine ⟨_, _, _, c, rfl, FinAt.make HL.out.1 most HL.out.2.1 HL.out.2.2.1 HL.out.2.2.2.1, Nat.le_refl _, ?_, ⟨rfl, rfl⟩, below_alloc (Below.refl _ _) _⟩
  have l1 := HL.out.2.2.2.2.1
  have l2 := HL.out.2.2.2.2.2
  rintro k (rfl | rfl | rfl)
  · exact .inr (Nat.le_refl _)
  · exact .inl ⟨.inl rfl, l1⟩
  · exact .inl ⟨.inr rfl, l2⟩
end Go.Proofs.YtafmapadkpjliaaGreatDoor.K

/- search: Best. -/
namespace Go.Proofs.YtafmapadkpjliaaGreatDoor.K
open Go.RowKit Go.Lib Go.Proofs.YtafmapadkpjliaaGreatDoorW.PrintWords Go.Proofs.YtafmapadkpjliaaGreatDoorW.PrintLast Go.Proofs.YtafmapadkpjliaaGreatDoorW.PrintMore Go.Proofs.YtafmapadkpjliaaGreatDoor.Sp
set_option linter.unusedVariables false
set_option linter.unusedSimpArgs false
/-- Best's boxes. -/
structure BsAt (W0 W : World) (p : Pos) : Prop where
  box : BoxP W W0.heap.size p
  ans : BoxR W (W0.heap.size + 1) 0 0 0 0 false
  bel : Below W0.heap.size W0 W
theorem BsAt.below {W0 W W' : World} {p : Pos} (h : BsAt W0 W p) (hb : Below W.heap.size W W') : BsAt W0 W' p := ⟨h.box.below hb, h.ans.below hb, below_go h.bel hb⟩
theorem BsAt.start (W : World) (p : Pos) : BsAt W ((W.alloc (.cells #[.string p.cells, .int .i64 p.side, .int .i64 p.clock, .int .i64 p.full] 23)).alloc (.cells #[.int .i64 0, .int .i64 0, .int .i64 0, .int .i64 0, .bool false] 38)) p := by
  have h1 := below_alloc (Below.refl W.heap.size W) (.cells #[.string p.cells, .int .i64 p.side, .int .i64 p.clock, .int .i64 p.full] 23)
  have e3 := BoxR.new (W.alloc (.cells #[.string p.cells, .int .i64 p.side, .int .i64 p.clock, .int .i64 p.full] 23)) 0 0 0 0 false 38
  rw [World.size_alloc] at e3
  exact ⟨(BoxP.new W p).below (below_alloc (Below.refl _ _) _), e3, below_alloc h1 _⟩
theorem below_setR {W0 W : World} (h : Below W0.heap.size W0 W) {g : Nat} (hg : W0.heap.size ≤ g) (a b s D : Int) (f : Bool) : Below W0.heap.size W0 (setR W g a b s D f) :=
  Below.setCell (p := ⟨g, 4, none⟩) (Below.setCell (p := ⟨g, 3, none⟩) (Below.setCell (p := ⟨g, 2, none⟩) (Below.setCell (p := ⟨g, 1, none⟩) (Below.setCell (p := ⟨g, 0, none⟩) h hg _) hg _) hg _) hg _) hg _
/-- Best that tells what is wrong. -/
def BestNo (E : Int) (W : World) (e : Ending) (w' : World) : Prop := e = .returned (.tuple #[resV 0 0 0 0 false, .int .i64 E]) ∧ Below W.heap.size W w'
set_option maxRecDepth 100000 in
set_option maxHeartbeats 4000000 in
theorem best_no (p : Pos) (D : Int) (M : List Mvi) (hM : M.length ≤ 10000) (g : Nat) (v tv : Value) (W : World) (hr : RowI W g v M) (hT : TabW W) (hE : begE p D 1 M ≠ 0) :
    Calls Tryz.prog 12 #[posV p, .int .i64 D, v, tv] W (BestNo (begE p D 1 M) W) := by
  have HT := Aside0.mk (fun (W' : World) (hb : Below W.heap.size W W') => hT.below hb)
  have HB := Aside0.mk (fun (W' : World) (hb : Below W.heap.size W W') => begin_c p D 1 M hM g v W' (hr.below hb) (hT.below hb))
  unfold BegIs at HB
  have hu := Tryz.underlying23
  have hu3 := Tryz.underlying38
  have HS := Aside0.mk (BsAt.start W p)
  have hne : (begE p D 1 M != 0) = true := by simpa using hE
  generalize begE p D 1 M = E at *
  clear hE hr hT hM
  go_enter Tryz.func12, Tryz.ntmps12
  go_upto_region 1 with fail
  generalize (W.alloc (.cells #[.string p.cells, .int .i64 p.side, .int .i64 p.clock, .int .i64 p.full] 23)).alloc (.cells #[.int .i64 0, .int .i64 0, .int .i64 0, .int .i64 0, .bool false] 38) = W1 at *
  obtain ⟨c0, c1, c2, c3⟩ := HS.out.box
  go_wp2_with fail
  refine (HB.out _ HS.out.bel).mono ?_
  rintro e w1 ⟨vr, rfl, -, hb⟩
  have H1 := Aside0.mk (HS.out.below hb)
  clear hb c0 c1 c2 c3
  obtain ⟨q0, q1, q2, q3, q4, qf⟩ := H1.out.ans
  go_wp2_with fail
  refine bodyPost_ret (by simp [results, Tryz.results12, go_sem, q0, q1, q2, q3, q4]; try rfl) rfl ?_
  exact ⟨rfl, below_setR H1.out.bel (Nat.le_succ _) 0 0 0 0 false⟩
/-- Best that tells the best move. -/
def BestOk (p : Pos) (d : Nat) (M : List Mvi) (S : Nat → Prop) (R : Nat → Nat → Prop) (C : Nat) (W : World) (e : Ending) (w' : World) : Prop :=
  ∃ (a b s D : Int) (f : Bool), e = .returned (.tuple #[resV a b s D f, .int .i64 0]) ∧ resT (firstB (moveW p d 0) (begL p M)) ((d : Int) + 1) a b s D f ∧ Ken S W w' ∧ ∃ tb sb n c T, R tb sb ∧ P.TabAt w' tb sb n T c ∧ c ≤ C + 1000000
theorem begL_mem {p : Pos} {M : List Mvi} {m : Mv} (h : m ∈ begL p M) : m ∈ legalL p := by
  unfold begL at h
  split at h
  · exact h
  · exact (List.mem_filter.1 h).1
theorem begL_len (p : Pos) (M : List Mvi) : (begL p M).length ≤ (legalL p).length := by
  unfold begL
  split
  · exact Nat.le_refl _
  · exact List.length_filter_le _ _
theorem begE_zero {p : Pos} {D least : Int} {M : List Mvi} (h : begE p D least M = 0) : wellS p = 0 ∧ least ≤ D ∧ D ≤ 64 := by
  unfold begE at h
  split at h
  · rename_i h1; exact absurd h h1
  · rename_i h1
    split at h
    · cases h
    · rename_i h2
      exact ⟨by simpa using h1, by omega, by omega⟩
/-- A finder's blocks beside what stands there. -/
structure Best3 (W0 : World) (vr : Value) (S : Nat → Prop) (fb tb sb : Nat) (w3 : World) : Prop where
  own : ∀ k, vr.ownBlock = some k → ¬ FinS fb tb sb k ∧ k < w3.heap.size
  no : ∀ {k}, W0.heap.size ≤ k ∧ k ≤ W0.heap.size + 1 → ¬ FinS fb tb sb k
  ss : ∀ k, FinS fb tb sb k → S k ∨ W0.heap.size ≤ k
theorem Best3.mk' {W0 W1 w3 : World} {p : Pos} {vr : Value} {l : List Mv} {S : Nat → Prop} {fb tb sb : Nat} (ho : OwnM W1 W0.heap.size vr l) (h : BsAt W0 W1 p) (hfs : ∀ k, FinS fb tb sb k → (S k ∧ k < W0.heap.size) ∨ W1.heap.size ≤ k) (hb : Below W1.heap.size W1 w3) : Best3 W0 vr S fb tb sb w3 := by
  have hs := h.bel.size
  have hz : W0.heap.size + 1 < W1.heap.size := h.ans.lt
  refine ⟨fun k hk => ?_, fun {k} hk hs2 => ?_, fun k hk => ?_⟩
  · have hl := ho.lt k hk
    refine ⟨fun hs2 => ?_, Nat.lt_of_lt_of_le hl.2 hb.size⟩
    rcases hfs k hs2 with h1 | h1 <;> omega
  · rcases hfs k hs2 with h1 | h1 <;> omega
  · rcases hfs k hk with h1 | h1
    · exact .inl h1.1
    · exact .inr (by omega)
set_option maxRecDepth 100000 in
set_option maxHeartbeats 4000000 in
theorem best_ok (p : Pos) (d : Nat) (hd : d ≤ 1) (h9 : nP p.cells ≤ 9) (M : List Mvi) (hM : M.length ≤ 10000) (g : Nat) (v tv : Value) (S : Nat → Prop) (R : Nat → Nat → Prop) (C : Nat) (hC : C ≤ 1000000000) (W : World) (hr : RowI W g v M) (hT : TabW W) (hE : begE p ((d : Int) + 1) 1 M = 0) (hfd : FindC S R tv 1073741824 C W) :
    Calls Tryz.prog 12 #[posV p, .int .i64 ((d : Int) + 1), v, tv] W (BestOk p d M S R C W) := by
  have HT := Aside0.mk (fun (W' : World) (hb : Below W.heap.size W W') => hT.below hb)
  have HB := fun (W' : World) (hb : Below W.heap.size W W') => begin_c p ((d : Int) + 1) 1 M hM g v W' (hr.below hb) (hT.below hb)
  unfold BegIs at HB
  rw [hE] at HB
  have HB := Aside0.mk HB
  obtain ⟨hw, _, _⟩ := begE_zero hE
  have hL : lookN 810 d ≤ 811 := by
    rcases Nat.le_one_iff_eq_zero_or_eq_one.1 hd with rfl | rfl <;> decide
  have hLN : (begL p M).length ≤ 810 := by
    have h1 := begL_len p M
    have h2 := legalR_few hw
    rw [← legal_eq hw] at h2
    omega
  have HRT := Aside0.mk (fun (Bm : Nat) (v : Value) (fb tb sb c : Nat) (W : World) (h1 : MvAt W Bm v (begL p M)) (h2 : ∀ k, v.ownBlock = some k → ¬ FinS fb tb sb k ∧ k < W.heap.size) (h3 : c ≤ 1000000000) (h4 : FinAt W fb tb sb c 1073741824) (h5 : TabW W) =>
    root_c p d (begL p M) Bm v fb tb sb c 1073741824 W hw h9 (by omega) (fun m hm => begL_mem hm) hLN h1 h2 (by omega) (by decide) (by omega) h4 h5)
  have HLB := Aside0.mk (show (((begL p M).length * lookN 810 d : Nat) : Int) ≤ 656910 by
    have := Nat.mul_le_mul hLN hL
    omega)
  unfold RootIs at HRT
  have hu := Tryz.underlying23
  have hu3 := Tryz.underlying38
  have HS := Aside0.mk (BsAt.start W p)
  have HFD := Aside0.mk hfd
  have HCC := Aside0.mk hC
  have hdb : (d : Int) ≤ 1 := by omega
  have HEND := Aside0.mk (fun (a b s D : Int) (f : Bool) (w' : World) (h1 : resT (firstB (moveW p d 0) (begL p M)) ((d : Int) + 1) a b s D f) (h2 : Ken S W w') (h3 : ∃ tb sb n c T, R tb sb ∧ P.TabAt w' tb sb n T c ∧ c ≤ C + 1000000) => show BestOk p d M S R C W (.returned (.tuple #[resV a b s D f, .int .i64 0])) w' from ⟨a, b, s, D, f, rfl, h1, h2, h3⟩)
  generalize lookN 810 d = L at *
  generalize moveW p d 0 = ff at *
  generalize begL p M = l at *
  clear hE hr hT hM hfd hC hL hLN hw h9 hd
  go_enter Tryz.func12, Tryz.ntmps12
  go_upto_region 1 with fail
  generalize (W.alloc (.cells #[.string p.cells, .int .i64 p.side, .int .i64 p.clock, .int .i64 p.full] 23)).alloc (.cells #[.int .i64 0, .int .i64 0, .int .i64 0, .int .i64 0, .bool false] 38) = W1 at *
  obtain ⟨c0, c1, c2, c3⟩ := HS.out.box
  go_wp2_with fail
  refine (HB.out _ HS.out.bel).mono ?_
  rintro e w1 ⟨vr, rfl, ho, hb⟩
  have H1 := Aside0.mk (And.intro (HS.out.below hb) (And.intro (OwnM.lower (ho (by trivial)) HS.out.bel.size) (World.block_lt_of_cell? W1 ⟨W.heap.size, 0, none⟩ c0)))
  clear ho hb c0 c1 c2 c3 HS HB
  obtain ⟨c0, c1, c2, c3⟩ := H1.out.1.box
  obtain ⟨q0, q1, q2, q3, q4, qf⟩ := H1.out.1.ans
  have n1 : W.heap.size + 1 ≠ W.heap.size := by omega
  go_upto_region 4 with fail
  have H2 : Aside0 (BsAt W w1.drew p ∧ OwnM w1.drew W.heap.size vr l) := Aside0.mk (And.intro (H1.out.1.below (pw_below_drewN (Below.refl _ _) 1)) (OwnM.below H1.out.2.1 (pw_below_drewN (Below.refl _ _) 1)))
  go_region_held3 (fun w' => w'.cell? ⟨W.heap.size, 0, none⟩ = some (.string p.cells) ∧ w'.cell? ⟨W.heap.size, 1, none⟩ = some (.int .i64 p.side) ∧ w'.cell? ⟨W.heap.size, 2, none⟩ = some (.int .i64 p.clock) ∧ w'.cell? ⟨W.heap.size, 3, none⟩ = some (.int .i64 p.full)) (go_keep)
    (first
      | (go_at_call 22; refine (HFD.out _ H2.out.1.bel).mono ?_; rintro e w3 ⟨fb, tb, sb, c, rfl, hfin, hcC, hfs, hR, hb⟩; have H3 := Aside0.mk (And.intro (And.intro (H2.out.1.below hb) (OwnM.below H2.out.2 hb)) (And.intro (And.intro hfin (And.intro hcC hR)) (Best3.mk' H2.out.2 H2.out.1 hfs hb))); clear hfin hcC hfs hR hb c0 c1 c2 c3 q0 q1 q2 q3 q4 qf; obtain ⟨c0, c1, c2, c3⟩ := H3.out.1.1.box; obtain ⟨q0, q1, q2, q3, q4, qf⟩ := H3.out.1.1.ans)
      | (go_at_call 25; refine (HRT.out W.heap.size vr fb tb sb c w3 H3.out.1.2.reads H3.out.2.2.own (Nat.le_trans H3.out.2.1.2.1 HCC.out) H3.out.2.1.1 (HT.out _ H3.out.1.1.bel)).mono ?_; rintro e w4 ⟨a, b, s, D, f, left', c', rfl, h1, h2, hfin, hken⟩; have H4 := Aside0.mk (And.intro (And.intro (h1 (by have := HLB.out; omega)) (And.intro (And.intro (H3.out.1.1.box.ken hken (H3.out.2.2.no (by omega))) (H3.out.1.1.ans.ken hken (H3.out.2.2.no (by omega)))) (And.intro hfin h2))) ((Ken.of_below H3.out.1.1.bel S).trans hken (fun j hj => (H3.out.2.2.ss j hj)))); clear h1 h2 hfin hken c0 c1 c2 c3 q0 q1 q2 q3 q4 qf; obtain ⟨c0, c1, c2, c3⟩ := H4.out.1.2.1.1; obtain ⟨q0, q1, q2, q3, q4, qf⟩ := H4.out.1.2.1.2))
  go_wp2_with fail
  refine bodyPost_ret (by simp [results, Tryz.results12, go_sem, q0, q1, q2, q3, q4]; try rfl) rfl ?_
  refine HEND.out a b s D f _ H4.out.1.1 (H4.out.2.trans (ken_setR w4 (W.heap.size + 1) a b s D f) (fun j hj => .inr (by omega))) ?_
  obtain ⟨n, T, ht⟩ := (H4.out.1.2.2.1.ken (ken_setR w4 (W.heap.size + 1) a b s D f) (fun k hk e => H3.out.2.2.no (by omega) (e ▸ hk))).tab
  exact ⟨tb, sb, n, c', T, H3.out.2.1.2.2, ht, by have h5 := H4.out.1.2.2.2; have h6 := H3.out.2.1.2.1; have h7 := HLB.out; omega⟩
end Go.Proofs.YtafmapadkpjliaaGreatDoor.K

/- search: Score. -/
namespace Go.Proofs.YtafmapadkpjliaaGreatDoor.K
open Go.RowKit Go.Lib Go.Proofs.YtafmapadkpjliaaGreatDoorW.PrintWords Go.Proofs.YtafmapadkpjliaaGreatDoorW.PrintLast Go.Proofs.YtafmapadkpjliaaGreatDoorW.PrintMore Go.Proofs.YtafmapadkpjliaaGreatDoor.Sp
set_option linter.unusedVariables false
set_option linter.unusedSimpArgs false
def ScoreIs (x E : Int) (W : World) (e : Ending) (w' : World) : Prop := e = .returned (.tuple #[.int .i64 x, .int .i64 E]) ∧ Below W.heap.size W w'
set_option maxRecDepth 100000 in
set_option maxHeartbeats 4000000 in
theorem score_no (p : Pos) (D : Int) (W : World) (hT : TabW W) (hE : begE p D 0 [] ≠ 0) :
    Calls Tryz.prog 9 #[posV p, .int .i64 D] W (ScoreIs 0 (begE p D 0 []) W) := by
  have HT := Aside0.mk (fun (W' : World) (hb : Below W.heap.size W W') => hT.below hb)
  have HB := Aside0.mk (fun (W' : World) (hb : Below W.heap.size W W') => begin_c p D 0 [] (by decide) 0 (.slice none 0 0) W' (RowI.nil _ _) (hT.below hb))
  unfold BegIs at HB
  have hu := Tryz.underlying23
  have HS := Aside0.mk (LmAt.new W p)
  have hne : (begE p D 0 [] != 0) = true := by simpa using hE
  generalize begE p D 0 [] = E at *
  clear hE hT
  go_enter Tryz.func9, Tryz.ntmps9
  go_upto_region 1 with fail
  generalize W.alloc (.cells #[.string p.cells, .int .i64 p.side, .int .i64 p.clock, .int .i64 p.full] 23) = W1 at *
  obtain ⟨c0, c1, c2, c3⟩ := HS.out.box
  go_wp2_with fail
  refine (HB.out _ HS.out.bel).mono ?_
  rintro e w1 ⟨vr, rfl, -, hb⟩
  have H1 := Aside0.mk (HS.out.below hb)
  clear hb c0 c1 c2 c3
  go_wp2_with fail
  go_ret2
  exact ⟨rfl, H1.out.bel⟩
set_option maxRecDepth 100000 in
set_option maxHeartbeats 4000000 in
theorem score_ok (p : Pos) (d : Nat) (hd : d ≤ 3) (h9 : nP p.cells ≤ 9) (W : World) (hT : TabW W) (hE : begE p (d : Int) 0 [] = 0) :
    Calls Tryz.prog 9 #[posV p, .int .i64 (d : Int)] W (ScoreIs (worthS d p.cells p.side p.clock 0) 0 W) := by
  have HT := Aside0.mk (fun (W' : World) (hb : Below W.heap.size W W') => hT.below hb)
  have HB := fun (W' : World) (hb : Below W.heap.size W W') => begin_c p (d : Int) 0 [] (by decide) 0 (.slice none 0 0) W' (RowI.nil _ _) (hT.below hb)
  unfold BegIs at HB
  rw [hE] at HB
  have HB := Aside0.mk HB
  obtain ⟨hw, _, _⟩ := begE_zero hE
  have hL : lookN 810 d ≤ 532097911 := by
    rcases (show d = 0 ∨ d = 1 ∨ d = 2 ∨ d = 3 by omega) with rfl | rfl | rfl | rfl <;> decide
  have HWC := Aside0.mk (fun (fb tb sb : Nat) (W : World) (h4 : FinAt W fb tb sb 0 1073741824) (h5 : TabW W) => show Calls Tryz.prog 23 #[.pointer (some ⟨fb, 0, none⟩), posV p, .int .i64 (d : Int), .int .i64 0, .int .i64 (-1073741824), .int .i64 1073741824] W (WthIs p d 0 (-1073741824) 1073741824 fb tb sb 0 1073741824 W) from
    wth_all d p 0 (-1073741824) 1073741824 fb tb sb 0 1073741824 W hw h9 (by omega) (by decide) (by decide) (by decide) (by omega) (by decide) (by decide) h4 h5)
  unfold WthIs at HWC
  have HCL := Aside0.mk (show clipI (worthS d p.cells p.side p.clock 0) (-1073741824) 1073741824 = worthS d p.cells p.side p.clock 0 by
    have := worthS_le d p.cells p.side p.clock 0 (by omega)
    unfold clipI; omega)
  have hu := Tryz.underlying23
  have HS := Aside0.mk (LmAt.new W p)
  have HFD := Aside0.mk (fun (W1 : World) (hb : Below W.heap.size W W1) => find_nil 1073741824 W1 (hT.below hb) W1 (Below.refl _ _))
  have HLB := Aside0.mk hL
  have hdb : (d : Int) ≤ 3 := by omega
  generalize lookN 810 d = L at *
  generalize worthS d p.cells p.side p.clock 0 = x at *
  clear hE hT hL hw h9 hd
  go_enter Tryz.func9, Tryz.ntmps9
  go_upto_region 1 with fail
  generalize W.alloc (.cells #[.string p.cells, .int .i64 p.side, .int .i64 p.clock, .int .i64 p.full] 23) = W1 at *
  obtain ⟨c0, c1, c2, c3⟩ := HS.out.box
  go_wp2_with fail
  refine (HB.out _ HS.out.bel).mono ?_
  rintro e w1 ⟨vr, rfl, -, hb⟩
  have H1 := Aside0.mk (HS.out.below hb)
  clear hb c0 c1 c2 c3 HS HB
  obtain ⟨c0, c1, c2, c3⟩ := H1.out.box
  go_upto_region 4 with fail
  have H2 : Aside0 (LmAt W w1.drew p) := Aside0.mk H1.out.drew
  go_region_held3 (fun w' => w'.cell? ⟨W.heap.size, 0, none⟩ = some (.string p.cells) ∧ w'.cell? ⟨W.heap.size, 1, none⟩ = some (.int .i64 p.side) ∧ w'.cell? ⟨W.heap.size, 2, none⟩ = some (.int .i64 p.clock) ∧ w'.cell? ⟨W.heap.size, 3, none⟩ = some (.int .i64 p.full)) (go_keep)
    (first
      | (go_at_call 22; refine (HFD.out w1.drew H2.out.bel).mono ?_; rintro e w3 ⟨fb, tb, sb, c, rfl, hfin, hcC, hfs, hR, hb⟩; obtain rfl := Nat.le_zero.1 hcC; have H3 := Aside0.mk (And.intro (H2.out.below hb) (And.intro hfin (fun (k : Nat) (hk : FinS fb tb sb k) => show W.heap.size + 1 ≤ k from Nat.le_trans H2.out.lt ((hfs k hk).resolve_left (fun h => h.1))))); clear hfin hcC hfs hR hb c0 c1 c2 c3; obtain ⟨c0, c1, c2, c3⟩ := H3.out.1.box)
      | (go_at_call 23; refine (HWC.out fb tb sb w3 H3.out.2.1 (HT.out _ H3.out.1.bel)).mono ?_; rintro e w4 ⟨r, left', c', rfl, h0, h1, h2, hfin, hken⟩; have H4 := Aside0.mk (And.intro (show r = x by rw [← HCL.out]; exact h1 (by have := HLB.out; omega)) (And.intro (H3.out.1.box.ken hken (fun hs => by have := H3.out.2.2 _ hs; omega)) (((Ken.of_below H3.out.1.bel (fun _ => False)).trans hken (fun j hj => .inr (by have := H3.out.2.2 j hj; omega))).toBelow (Nat.le_refl _) (fun _ h => h.elim)))); clear h0 h1 h2 hfin hken c0 c1 c2 c3; obtain ⟨c0, c1, c2, c3⟩ := H4.out.2.1))
  go_wp2_with fail
  go_ret2
  exact ⟨by first | rfl | (rw [H4.out.1]; rfl), H4.out.2.2⟩
end Go.Proofs.YtafmapadkpjliaaGreatDoor.K

/- search: Limited. -/
namespace Go.Proofs.YtafmapadkpjliaaGreatDoor.K
open Go.RowKit Go.Lib Go.Proofs.YtafmapadkpjliaaGreatDoorW.PrintWords Go.Proofs.YtafmapadkpjliaaGreatDoorW.PrintLast Go.Proofs.YtafmapadkpjliaaGreatDoorW.PrintMore Go.Proofs.YtafmapadkpjliaaGreatDoor.Sp
set_option linter.unusedVariables false
set_option linter.unusedSimpArgs false
set_option maxRecDepth 100000 in
set_option maxHeartbeats 4000000 in
theorem lim_no (p : Pos) (D most : Int) (W : World) (hT : TabW W) (hE : begE p D 1 [] ≠ 0) :
    Calls Tryz.prog 15 #[posV p, .int .i64 D, .int .i64 most] W (BestNo (begE p D 1 []) W) := by
  have HT := Aside0.mk (fun (W' : World) (hb : Below W.heap.size W W') => hT.below hb)
  have HB := Aside0.mk (fun (W' : World) (hb : Below W.heap.size W W') => begin_c p D 1 [] (by decide) 0 (.slice none 0 0) W' (RowI.nil _ _) (hT.below hb))
  unfold BegIs at HB
  have hu := Tryz.underlying23
  have hu3 := Tryz.underlying38
  have HS := Aside0.mk (BsAt.start W p)
  have hne : (begE p D 1 [] != 0) = true := by simpa using hE
  generalize begE p D 1 [] = E at *
  clear hE hT
  go_enter Tryz.func15, Tryz.ntmps15
  go_upto_region 1 with fail
  generalize (W.alloc (.cells #[.string p.cells, .int .i64 p.side, .int .i64 p.clock, .int .i64 p.full] 23)).alloc (.cells #[.int .i64 0, .int .i64 0, .int .i64 0, .int .i64 0, .bool false] 38) = W1 at *
  obtain ⟨c0, c1, c2, c3⟩ := HS.out.box
  go_wp2_with fail
  refine (HB.out _ HS.out.bel).mono ?_
  rintro e w1 ⟨vr, rfl, -, hb⟩
  have H1 := Aside0.mk (HS.out.below hb)
  clear hb c0 c1 c2 c3
  obtain ⟨q0, q1, q2, q3, q4, qf⟩ := H1.out.ans
  go_wp2_with fail
  refine bodyPost_ret (by simp [results, Tryz.results15, go_sem, q0, q1, q2, q3, q4]; try rfl) rfl ?_
  exact ⟨rfl, below_setR H1.out.bel (Nat.le_succ _) 0 0 0 0 false⟩
set_option maxRecDepth 100000 in
set_option maxHeartbeats 4000000 in
theorem lim_arg (p : Pos) (D most : Int) (hm : most < 1) (W : World) (hT : TabW W) (hE : begE p D 1 [] = 0) :
    Calls Tryz.prog 15 #[posV p, .int .i64 D, .int .i64 most] W (BestNo 1 W) := by
  have HT := Aside0.mk (fun (W' : World) (hb : Below W.heap.size W W') => hT.below hb)
  have HB := fun (W' : World) (hb : Below W.heap.size W W') => begin_c p D 1 [] (by decide) 0 (.slice none 0 0) W' (RowI.nil _ _) (hT.below hb)
  unfold BegIs at HB
  rw [hE] at HB
  have HB := Aside0.mk HB
  have hu := Tryz.underlying23
  have hu3 := Tryz.underlying38
  have HS := Aside0.mk (BsAt.start W p)
  clear hE hT
  go_enter Tryz.func15, Tryz.ntmps15
  go_upto_region 1 with fail
  generalize (W.alloc (.cells #[.string p.cells, .int .i64 p.side, .int .i64 p.clock, .int .i64 p.full] 23)).alloc (.cells #[.int .i64 0, .int .i64 0, .int .i64 0, .int .i64 0, .bool false] 38) = W1 at *
  obtain ⟨c0, c1, c2, c3⟩ := HS.out.box
  go_wp2_with fail
  refine (HB.out _ HS.out.bel).mono ?_
  rintro e w1 ⟨vr, rfl, -, hb⟩
  have H1 := Aside0.mk (HS.out.below hb)
  clear hb c0 c1 c2 c3
  obtain ⟨q0, q1, q2, q3, q4, qf⟩ := H1.out.ans
  go_wp2_with fail
  refine bodyPost_ret (by simp [results, Tryz.results15, go_sem, q0, q1, q2, q3, q4]; try rfl) rfl ?_
  exact ⟨rfl, below_setR H1.out.bel (Nat.le_succ _) 0 0 0 0 false⟩
/-- What Limited tells: the best one of some depth; of the whole, if so many may be looked at. -/
def LimOk (p : Pos) (d : Nat) (most : Int) (W : World) (e : Ending) (w' : World) : Prop :=
  ∃ (a b s D : Int) (f : Bool) (dd : Nat), e = .returned (.tuple #[resV a b s D f, .int .i64 0]) ∧ dd ≤ d ∧ (1000000 ≤ most → dd = d) ∧ resT (firstB (moveW p dd 0) (legalL p)) ((dd : Int) + 1) a b s D f ∧ Below W.heap.size W w'
/-- Limited's boxes behind its first look. -/
structure LiAt (W0 W : World) (p : Pos) (v : Value) (l : List Mv) (rb : Nat) (a b s D : Int) (f : Bool) : Prop where
  bs : BsAt W0 W p
  row : MvAt W W0.heap.size v l
  box : BoxR W rb a b s D f
  gr : W0.heap.size + 1 < rb
  own : ∀ k, v.ownBlock = some k → W0.heap.size ≤ k ∧ k < rb
theorem LiAt.below {W0 W W' : World} {p : Pos} {v : Value} {l : List Mv} {rb : Nat} {a b s D : Int} {f : Bool} (h : LiAt W0 W p v l rb a b s D f) (hb : Below W.heap.size W W') : LiAt W0 W' p v l rb a b s D f :=
  ⟨h.bs.below hb, h.row.below hb, h.box.below hb, h.gr, h.own⟩
/-- A call that turns new blocks alone. -/
theorem BsAt.ken {S : Nat → Prop} {W0 W W' : World} {p : Pos} (h : BsAt W0 W p) (hk : Ken S W W') (hs : ∀ k, S k → W0.heap.size + 1 < k) : BsAt W0 W' p :=
  ⟨h.box.ken hk (fun e => by have := hs _ e; omega), h.ans.ken hk (fun e => by have := hs _ e; omega), ((Ken.of_below h.bel (fun _ => False)).trans hk (fun j hj => .inr (by have := hs j hj; omega))).toBelow (Nat.le_refl _) (fun _ h => h.elim)⟩
theorem LiAt.ken {S : Nat → Prop} {W0 W W' : World} {p : Pos} {v : Value} {l : List Mv} {rb : Nat} {a b s D : Int} {f : Bool} (h : LiAt W0 W p v l rb a b s D f) (hk : Ken S W W') (hs : ∀ k, S k → W0.heap.size + 1 < k) (hr : ¬ S rb) (hv : ∀ k, v.ownBlock = some k → ¬ S k) : LiAt W0 W' p v l rb a b s D f :=
  ⟨h.bs.ken hk hs, h.row.ken hk hv, h.box.ken hk hr, h.gr, h.own⟩
end Go.Proofs.YtafmapadkpjliaaGreatDoor.K
