/- Walk of the law TableScripts. -/
import Derived.Test.YtojklhlcoakieaaT14
namespace Go.Proofs.Ytojklhlcoakieaa.P
open Go.RowKit Go.Lib Go.Proofs.YtojklhlcoakieaaW.PrintWords Go.Proofs.YtojklhlcoakieaaW.PrintLast Go.Proofs.YtojklhlcoakieaaW.PrintMore
set_option linter.unusedVariables false
set_option linter.unusedSimpArgs false
/-- A row of a script. -/
structure SOp where
  act : Int
  e : Ent
  low : Int
  high : Int
/-- Its cells, from o on. -/
def OpAt (W : World) (g o : Nat) (x : SOp) : Prop :=
  g < W.heap.size ∧ W.cell? ⟨g, o, none⟩ = some (.int .i64 x.act) ∧ W.cell? ⟨g, o + 1, none⟩ = some (.int .u64 x.e.key) ∧ W.cell? ⟨g, o + 2, none⟩ = some (.int .i64 x.e.depth) ∧ W.cell? ⟨g, o + 3, none⟩ = some (.int .i64 x.e.score) ∧ W.cell? ⟨g, o + 4, none⟩ = some (.int .i64 x.e.sure) ∧ W.cell? ⟨g, o + 5, none⟩ = some (.int .i64 x.e.frm) ∧ W.cell? ⟨g, o + 6, none⟩ = some (.int .i64 x.e.dest) ∧ W.cell? ⟨g, o + 7, none⟩ = some (.int .i64 x.low) ∧ W.cell? ⟨g, o + 8, none⟩ = some (.int .i64 x.high)
theorem OpAt.of {W W' : World} {g o : Nat} {x : SOp} (h : OpAt W g o x) (hz : W.heap.size ≤ W'.heap.size) (hb : ∀ k, W'.cell? ⟨g, k, none⟩ = W.cell? ⟨g, k, none⟩) : OpAt W' g o x := by
  obtain ⟨h0, h1, h2, h3, h4, h5, h6, h7, h8, h9⟩ := h
  exact ⟨by omega, (hb _).trans h1, (hb _).trans h2, (hb _).trans h3, (hb _).trans h4, (hb _).trans h5, (hb _).trans h6, (hb _).trans h7, (hb _).trans h8, (hb _).trans h9⟩
theorem OpAt.below {W W' : World} {g o B : Nat} {x : SOp} (h : OpAt W g o x) (hg : g < B) (hb : Below B W W') : OpAt W' g o x :=
  h.of hb.size (fun k => hb.cell (p := ⟨g, k, none⟩) hg)
theorem OpAt.turned {W W' : World} {g o b sb : Nat} {x : SOp} (h : OpAt W g o x) (hb : Turned b sb W W') (h1 : g ≠ b) (h2 : g ≠ sb) : OpAt W' g o x :=
  h.of hb.size (fun k => hb.cell g k h.1 h1 h2)
theorem OpAt.drew {W : World} {g o : Nat} {x : SOp} (h : OpAt W g o x) : OpAt W.drew g o x := h
theorem BoxAt.drew {W : World} {b : Nat} {e : Ent} (h : BoxAt W b e) : BoxAt W.drew b e := h
theorem cell_of_heap {W W' : World} {g : Nat} (h : W'.heap[g]? = W.heap[g]?) (k : Nat) : W'.cell? ⟨g, k, none⟩ = W.cell? ⟨g, k, none⟩ := by simp only [World.cell?, h]
theorem TabAt.under {W W' : World} {b sb n c B : Nat} {T : Nat → Option Ent} (h : TabAt W b sb n T c) (hb : Below B W W') (h1 : b < B) (h2 : sb < B) : TabAt W' b sb n T c :=
  ⟨(hb.cell (p := ⟨b, 0, none⟩) h1).trans h.ptr, (hb.cell (p := ⟨b, 1, none⟩) h1).trans h.cnt, (hb.frozen (p := ⟨b, 1, none⟩) h1).trans h.fz, fun i j hi hj => (hb.cell (p := ⟨sb, i * 7 + j, none⟩) h2).trans (h.cells i j hi hj), fun i => (hb.frozen (p := ⟨sb, i, none⟩) h2).trans (h.fzs i), h.ne, h.pos, h.most⟩
theorem RefAt.turned {W W' : World} {b sb kb n : Nat} {L : List Ent} (h : RefAt W kb n L) (hb : Turned b sb W W') (h1 : b < kb) (h2 : sb < kb) : RefAt W' kb n L := by
  have hlt : kb < W.heap.size := World.block_lt_of_cell? W _ h.sz
  obtain ⟨v, hv, ho⟩ := h.row
  have hk := hb.block kb hlt (by omega) (by omega)
  exact ⟨(cell_of_heap hk _).trans h.sz, (World.frozen?_of_block (w := W) hk).trans h.fz, ⟨v, (cell_of_heap hk _).trans hv, own_move ho (fun k hk => hb.block k (own_lt ho k hk) (by have := own_base ho k hk; omega) (by have := own_base ho k hk; omega))⟩, h.pos, h.most⟩
/-- What the loop of TableScripts keeps. -/
structure ScrAt (w0 W : World) (kb n : Nat) (T : Nat → Option Ent) (L : List Ent) : Prop where
  tab : TabAt W (w0.heap.size + 1) w0.heap.size n T L.length
  ref : RefAt W kb n L
  rel : Rel T n L.length L
  bel : Below w0.heap.size w0 W
  klt : w0.heap.size + 1 < kb
theorem ScrAt.below {w0 W W' : World} {kb n : Nat} {T : Nat → Option Ent} {L : List Ent} (h : ScrAt w0 W kb n T L) (hb : Below W.heap.size W W') : ScrAt w0 W' kb n T L :=
  ⟨h.tab.below hb, h.ref.below hb, h.rel, h.bel.trans (hb.mono h.bel.size), h.klt⟩
theorem ScrAt.drew {w0 W : World} {kb n : Nat} {T : Nat → Option Ent} {L : List Ent} (h : ScrAt w0 W kb n T L) : ScrAt w0 W.drew kb n T L := h.below (Below.drew (Below.refl _ _))
theorem slen {W : World} {kb n : Nat} {L : List Ent} (h : RefAt W kb n L) : ∃ A cap, W.cell? ⟨kb, 1, none⟩ = some (.slice A L.length cap) := by
  obtain ⟨A, cap, hc, _⟩ := h.cells
  exact ⟨A, cap, hc⟩
theorem RefAt.none {W : World} {kb n : Nat} {L : List Ent} (h : RefAt W kb n L) : RefAt (W.setCell ⟨kb, 1, none⟩ (.slice none 0 0)) kb n [] := by
  obtain ⟨v, hv, _⟩ := h.row
  refine ⟨(World.cell?_setCell_other _ _ _ _ (by intro he; injection he with _ e2; omega)).trans h.sz, by rw [World.frozen?_setCell]; exact h.fz, ⟨_, World.cell?_setCell_same' _ _ _ (by rw [hv]; rfl), own_nil _ _ _ _⟩, h.pos, h.most⟩
/-- Behind both Puts. -/
theorem ScrAt.puts {w0 W W6 W7 : World} {kb n : Nat} {T : Nat → Option Ent} {L : List Ent} {e : Ent} (h : ScrAt w0 W kb n T L) (hk : 0 ≤ e.key) (ht : TabAt W6 (w0.heap.size + 1) w0.heap.size n (putF T n L.length e).2.1 (putF T n L.length e).2.2) (hb : Turned (w0.heap.size + 1) w0.heap.size W W6)
    (hr : RefAt W7 kb n (rputF L n e).2) (hb7 : Below kb W6 W7) : ScrAt w0 W7 kb n (putF T n L.length e).2.1 (rputF L n e).2 := by
  have hp := (h.rel.put h.ref.pos e hk).2
  have hc := hp.cnt
  rw [hc] at ht hp
  have hz := h.bel.size
  have hkw : kb < W.heap.size := World.block_lt_of_cell? W _ h.ref.sz
  exact ⟨ht.under hb7 h.klt (by have := h.klt; omega), hr, hp, (h.bel.trans (hb.below (by omega) (by omega) hz)).trans (hb7.mono (by have := h.klt; omega)), h.klt⟩
set_option maxRecDepth 100000 in
set_option maxHeartbeats 4000000 in
theorem tableScripts_walk (w : World) (size : Int) (a : Option Addr) (len cap : Nat) (S : Nat → SOp)
  (ha : len = 0 ∨ ∃ g o, a = some ⟨g, o, none⟩ ∧ ∀ i, i < len → OpAt w g (o + i * 9) (S i) ∧ 0 ≤ (S i).e.key) :
  Calls Try.prog 3 #[.int .i64 size, .slice a len cap] w fun x w' => x = .returned (.bool true) ∧ Below w.heap.size w w' := by
  have HA := Aside0.mk ha
  clear ha
  by_cases h60 : len ≤ 60
  case neg =>
    have b0 : decide ((60 : Int) < (len : Int)) = true := decide_eq_true (by omega)
    go_enter Try.func3, Try.ntmps3
    go_wp2_with fail
    refine (live_walk _).mono ?_
    rintro y w2 ⟨rfl, hb⟩
    have HB2 := Aside0.mk hb
    clear hb
    go_wp2_with fail
    go_ret
    exact ⟨rfl, HB2.out⟩
  have b0 : decide ((60 : Int) < (len : Int)) = false := decide_eq_false (by omega)
  by_cases hs0 : size < 1
  case pos =>
    have c0 : decide (size < 1) = true := decide_eq_true hs0
    go_enter Try.func3, Try.ntmps3
    go_wp2_with fail
    refine (new_small w size c0).mono ?_
    rintro y w1 ⟨rfl, rfl⟩
    go_wp2_with fail
    refine (live_walk _).mono ?_
    rintro y w2 ⟨rfl, hb⟩
    have HB2 := Aside0.mk hb
    clear hb
    go_wp2_with fail
    go_ret
    exact ⟨rfl, HB2.out⟩
  have c0 : decide (size < 1) = false := decide_eq_false hs0
  by_cases hs1 : 4096 < size
  case pos =>
    have c1 : decide (4096 < size) = true := decide_eq_true hs1
    go_enter Try.func3, Try.ntmps3
    go_wp2_with fail
    refine (new_great w size c0 c1).mono ?_
    rintro y w1 ⟨rfl, rfl⟩
    go_wp2_with fail
    refine (live_walk _).mono ?_
    rintro y w2 ⟨rfl, hb⟩
    have HB2 := Aside0.mk hb
    clear hb
    go_wp2_with fail
    go_ret
    exact ⟨rfl, HB2.out⟩
  have c1 : decide (4096 < size) = false := decide_eq_false hs1
  obtain ⟨n, rfl⟩ : ∃ n : Nat, size = n := ⟨size.toNat, by omega⟩
  go_enter Try.func3, Try.ntmps3
  go_wp2_with fail
  refine (new_walk w n c0 c1).mono ?_
  rintro y w1 ⟨rfl, ht, hb⟩
  have HT := Aside0.mk ht
  have HB := Aside0.mk hb
  clear ht hb
  go_wp2_with fail
  have hkb : w.heap.size + 1 < w1.heap.size := HT.out.lt.1
  have HKB := Aside0.mk hkb
  have H0 : Aside0 (ScrAt w (w1.alloc (.cells #[.int .i64 (n : Int), .slice none 0 0] 31)) w1.heap.size n (fun _ => none) []) :=
    ⟨⟨HT.out.below (below_alloc (Below.refl _ _) _), ⟨by simp, by simp, ⟨.slice none 0 0, by simp, own_nil _ _ _ _⟩, by omega, by omega⟩, Rel.nil n, HB.out.trans ((below_alloc (Below.refl w1.heap.size w1) _).mono HB.out.size), hkb⟩⟩
  generalize hk : w1.heap.size = kb at H0 HKB
  clear hk hkb HT HB
  go_loopg [8] len (fun gg s8 wr => ∃ (i : Nat) (T : Nat → Option Ent) (L : List Ent), s8 = .int .i64 i ∧ i + gg = len ∧ Aside0 (L.length ≤ i) ∧ Aside0 (ScrAt w wr kb n T L))
  case atStart => exact ⟨0, _, [], rfl, by omega, ⟨by simp⟩, H0⟩
  case round =>
    obtain ⟨i, T, L, rfl, hig, HLI, HS⟩ := hrel
    have HG := Aside0.mk hig
    clear hig H0
    by_cases hlt : i < len
    case neg =>
      have b1 : decide ((i : Int) < (len : Int)) = false := decide_eq_false (by omega)
      go_wp2_with fail
      refine (live_walk _).mono ?_
      rintro y w2 ⟨rfl, hb⟩
      have HB2 := Aside0.mk (HS.out.bel.trans (hb.mono HS.out.bel.size))
      clear hb
      go_wp2_with fail
      go_ret
      exact ⟨rfl, HB2.out⟩
    obtain ⟨g, o, rfl, hS⟩ := HA.out.resolve_left (by omega)
    have HSS := Aside0.mk hS
    clear hS HA
    have hx := (HSS.out i hlt).1.below (HSS.out i hlt).1.1 HS.out.bel
    have HK := Aside0.mk (HSS.out i hlt).2
    have HL60 := Aside0.mk (show L.length ≤ 60 by have := HLI.out; omega)
    have hz := HS.out.bel.size
    have HZ := Aside0.mk hz
    have hkw : kb < wr.heap.size := World.block_lt_of_cell? _ _ HS.out.ref.sz
    have HKW := Aside0.mk hkw
    have HOB : Aside0 (∀ v, wr.cell? ⟨kb, 1, none⟩ = some v → some wr.heap.size ≠ v.ownBlock) := ⟨fun v hv he => by
      obtain ⟨v2, hv2, ho⟩ := HS.out.ref.row
      rw [hv] at hv2
      obtain rfl := Option.some.inj hv2
      have := own_lt ho _ he.symm
      omega⟩
    have hE : Below wr.heap.size wr (wr.alloc (.cells #[.int .i64 (S i).act, .int .u64 (S i).e.key, .int .i64 (S i).e.depth, .int .i64 (S i).e.score, .int .i64 (S i).e.sure, .int .i64 (S i).e.frm, .int .i64 (S i).e.dest, .int .i64 (S i).low, .int .i64 (S i).high] 38)) := below_alloc (Below.refl _ _) _
    have HE := Aside0.mk hE
    have HS1 := Aside0.mk (HS.out.below hE)
    have HO1 : Aside0 (OpAt (wr.alloc (.cells #[.int .i64 (S i).act, .int .u64 (S i).e.key, .int .i64 (S i).e.depth, .int .i64 (S i).e.score, .int .i64 (S i).e.sure, .int .i64 (S i).e.frm, .int .i64 (S i).e.dest, .int .i64 (S i).low, .int .i64 (S i).high] 38)) wr.heap.size 0 (S i)) := ⟨⟨by simp, by simp, by simp, by simp, by simp, by simp, by simp, by simp, by simp, by simp⟩⟩
    have b1 : decide ((i : Int) < (len : Int)) = true := decide_eq_true (by omega)
    have b2 : 0 ≤ (i : Int) := by omega
    have b3 : (i : Int) < (len : Int) := by omega
    have b4 : (i : Int) ≤ 60 := by omega
    clear hE hz hkw
    obtain ⟨e0, e1, e2, e3, e4, e5, e6, e7, e8, e9⟩ := hx
    cases d0 : ((S i).act == 0)
    case true =>
      have HP := Aside0.mk (HS.out.rel.put HS.out.ref.pos (S i).e HK.out).1
      have HLL : Aside0 ((rputF L n (S i).e).2.length ≤ i + 1) := ⟨by have := rput_len L n (S i).e; have := HLI.out; omega⟩
      go_wp2_with fail
      clear e0 e1 e2 e3 e4 e5 e6 e7 e8 e9
      go_region_held3 (fun W => W.cell? ⟨wr.heap.size, 1, none⟩ = some (.int .u64 (S i).e.key) ∧ W.cell? ⟨wr.heap.size, 2, none⟩ = some (.int .i64 (S i).e.depth) ∧ W.cell? ⟨wr.heap.size, 3, none⟩ = some (.int .i64 (S i).e.score) ∧ W.cell? ⟨wr.heap.size, 4, none⟩ = some (.int .i64 (S i).e.sure) ∧ W.cell? ⟨wr.heap.size, 5, none⟩ = some (.int .i64 (S i).e.frm) ∧ W.cell? ⟨wr.heap.size, 6, none⟩ = some (.int .i64 (S i).e.dest))
        (go_keep)
        (first
          | (go_at_call 10; refine (own_walk _ (S i).e).mono ?_; rintro y w5 ⟨rfl, hb⟩; have HS5 := Aside0.mk (HS1.out.drew.below hb); have ho5 : OpAt w5 wr.heap.size 0 (S i) := HO1.out.drew.below HO1.out.1 hb; have HO5 := Aside0.mk ho5; have HE5 : Aside0 (Below wr.heap.size wr w5) := ⟨(Below.drew HE.out).trans (hb.mono HE.out.size)⟩; obtain ⟨f0, f1, f2, f3, f4, f5, f6, f7, f8, f9⟩ := ho5; clear hb)
          | (go_at_call 9; refine (put_walk _ _ _ n L.length T (S i).e HK.out HS5.out.tab (by have := HL60.out; omega)).mono ?_; rw [HP.out]; rintro y w6 ⟨rfl, ht6, hb⟩; have HT6 := Aside0.mk ht6; have HB6 := Aside0.mk hb; have ho6 : OpAt w6 wr.heap.size 0 (S i) := HO5.out.turned hb (by have := HKW.out; have := HS5.out.klt; omega) (by have := HKW.out; have := HS5.out.klt; omega); have HO6 := Aside0.mk ho6; obtain ⟨g0, g1, g2, g3, g4, g5, g6, g7, g8, g9⟩ := ho6; clear hb ht6)
          | (go_at_call 11; refine (rput_walk _ kb n L (S i).e (HS5.out.ref.turned HB6.out HS5.out.klt (by have := HS5.out.klt; omega)) HK.out (fun e he => (HS.out.rel.ok e he).2.2) HL60.out).mono ?_; rintro y w7 ⟨rfl, hr7, hb7, hk7⟩; have HF := Aside0.mk (HS5.out.puts HK.out HT6.out HB6.out hr7 hb7); have ho7 : OpAt w7 wr.heap.size 0 (S i) := HO6.out.of hb7.size (fun k => cell_of_heap (by obtain ⟨v, hv, _⟩ := HS.out.ref.row; exact hk7 v ((HB6.out.cell kb 1 (World.block_lt_of_cell? _ _ HS5.out.ref.sz) (by have := HS5.out.klt; omega) (by have := HS5.out.klt; omega)).trans ((HE5.out.cell (p := ⟨kb, 1, none⟩) HKW.out).trans hv)) wr.heap.size HO6.out.1 (by have := HKW.out; omega) (HOB.out v hv)) k); obtain ⟨h0, h1, h2, h3, h4, h5, h6, h7, h8, h9⟩ := ho7; clear hr7 hb7 hk7))
      clear f0 f1 f2 f3 f4 f5 f6 f7 f8 f9 g0 g1 g2 g3 g4 g5 g6 g7 g8 g9 h0 h1 h2 h3 h4 h5 h6 h7 h8 h9
      obtain ⟨A2, cap2, hc2⟩ := slen HF.out.ref
      go_wp2_with fail
      go_region_held3 (fun W => W.cell? ⟨kb, 1, none⟩ = some (.slice A2 ((rputF L n (S i).e).2).length cap2)) (go_keep)
        (first
          | (go_at_call 17; refine (count_walk _ _ _ n ((rputF L n (S i).e).2).length ((putF T n L.length (S i).e).2.1) HF.out.drew.tab).mono ?_; rintro y w9 ⟨rfl, ⟨q9, rfl⟩⟩))
      clear hc2
      go_wp2_with fail
      go_roundg (len - (i + 1))
      case measure => have := HG.out; omega
      case rel => exact ⟨i + 1, (putF T n L.length (S i).e).2.1, (rputF L n (S i).e).2, by go_num, by have := HG.out; omega, HLL, ⟨HF.out.below (pw_below_drewN (Below.refl _ _) (1 + q9))⟩⟩
    case false =>
    have HLL : Aside0 (L.length ≤ i + 1) := ⟨by have := HLI.out; omega⟩
    cases d1 : ((S i).act == 1)
    case true =>
      have HGE := Aside0.mk (HS.out.rel.get HS.out.ref.pos (S i).e.key HK.out)
      go_wp2_with fail
      clear e0 e1 e2 e3 e4 e5 e6 e7 e8 e9
      refine (get_walk _ _ _ n L.length T (S i).e.key HK.out HS1.out.tab).mono ?_
      rintro y w5 ⟨rfl, hb⟩
      rw [HGE.out]
      generalize hr : rgetF L n (S i).e.key = r
      obtain ⟨re, rb⟩ := r
      have HR := Aside0.mk hr
      clear hr
      dsimp only
      have hb2 : Below (wr.alloc (.cells #[.int .i64 (S i).act, .int .u64 (S i).e.key, .int .i64 (S i).e.depth, .int .i64 (S i).e.score, .int .i64 (S i).e.sure, .int .i64 (S i).e.frm, .int .i64 (S i).e.dest, .int .i64 (S i).low, .int .i64 (S i).high] 38)).heap.size (wr.alloc (.cells #[.int .i64 (S i).act, .int .u64 (S i).e.key, .int .i64 (S i).e.depth, .int .i64 (S i).e.score, .int .i64 (S i).e.sure, .int .i64 (S i).e.frm, .int .i64 (S i).e.dest, .int .i64 (S i).low, .int .i64 (S i).high] 38)) (w5.alloc (.cells #[.int .u64 re.key, .int .i64 re.depth, .int .i64 re.score, .int .i64 re.sure, .int .i64 re.frm, .int .i64 re.dest] 40)) := hb.trans ((below_alloc (Below.refl w5.heap.size w5) _).mono hb.size)
      have HS5 := Aside0.mk (HS1.out.below hb2)
      have ho := HO1.out.below HO1.out.1 hb
      have hx5 := BoxAt.new w5 re 40
      have HX5 := Aside0.mk hx5
      have hz5 : wr.heap.size < w5.heap.size := ho.1
      obtain ⟨f0, f1, f2, f3, f4, f5, f6, f7, f8, f9⟩ := ho
      clear hb hb2 hx5
      go_wp2_with fail
      refine (rget_walk _ kb n L (S i).e.key HS5.out.ref HK.out (fun e he => (HS.out.rel.ok e he).2.2) HL60.out).mono ?_
      clear f0 f1 f2 f3 f4 f5 f6 f7 f8 f9
      rintro y w6 ⟨rfl, hb⟩
      rw [HR.out]
      dsimp only
      have hx6 := HX5.out.below hb
      have hb2 : Below (w5.alloc (.cells #[.int .u64 re.key, .int .i64 re.depth, .int .i64 re.score, .int .i64 re.sure, .int .i64 re.frm, .int .i64 re.dest] 40)).heap.size (w5.alloc (.cells #[.int .u64 re.key, .int .i64 re.depth, .int .i64 re.score, .int .i64 re.sure, .int .i64 re.frm, .int .i64 re.dest] 40)) (w6.alloc (.cells #[.int .u64 re.key, .int .i64 re.depth, .int .i64 re.score, .int .i64 re.sure, .int .i64 re.frm, .int .i64 re.dest] 36)) := hb.trans ((below_alloc (Below.refl w6.heap.size w6) _).mono hb.size)
      have HS6 := Aside0.mk (HS5.out.below hb2)
      have HX6 := Aside0.mk (HX5.out.below hb2)
      have HY6 := Aside0.mk (BoxAt.new w6 re 36)
      have hz6 : w5.heap.size < w6.heap.size := hx6.1
      clear hb hb2
      obtain ⟨f0, f1, f2, f3, f4, f5, f6⟩ := hx6
      go_wp2_with fail
      clear f0 f1 f2 f3 f4 f5 f6
      obtain ⟨f0, f1, f2, f3, f4, f5, f6⟩ := HX6.out
      obtain ⟨g0, g1, g2, g3, g4, g5, g6⟩ := HY6.out
      go_region_held3 (fun W => W.cell? ⟨w5.heap.size, 0, none⟩ = some (.int .u64 re.key) ∧ W.cell? ⟨w5.heap.size, 1, none⟩ = some (.int .i64 re.depth) ∧ W.cell? ⟨w5.heap.size, 2, none⟩ = some (.int .i64 re.score) ∧ W.cell? ⟨w5.heap.size, 3, none⟩ = some (.int .i64 re.sure) ∧ W.cell? ⟨w5.heap.size, 4, none⟩ = some (.int .i64 re.frm) ∧ W.cell? ⟨w5.heap.size, 5, none⟩ = some (.int .i64 re.dest) ∧ W.cell? ⟨w6.heap.size, 0, none⟩ = some (.int .u64 re.key) ∧ W.cell? ⟨w6.heap.size, 1, none⟩ = some (.int .i64 re.depth) ∧ W.cell? ⟨w6.heap.size, 2, none⟩ = some (.int .i64 re.score) ∧ W.cell? ⟨w6.heap.size, 3, none⟩ = some (.int .i64 re.sure) ∧ W.cell? ⟨w6.heap.size, 4, none⟩ = some (.int .i64 re.frm) ∧ W.cell? ⟨w6.heap.size, 5, none⟩ = some (.int .i64 re.dest))
        (go_keep)
        (first
          | (go_at_call 10; refine (own_walk _ re).mono ?_; rintro y w7 ⟨rfl, hb⟩; have HF := Aside0.mk (HS6.out.drew.below hb); have hx7 := HX6.out.drew.below hb; have hy7 := HY6.out.drew.below hb; obtain ⟨h0, h1, h2, h3, h4, h5, h6⟩ := hx7; obtain ⟨k0, k1, k2, k3, k4, k5, k6⟩ := hy7; clear hb))
      clear f0 f1 f2 f3 f4 f5 f6 g0 g1 g2 g3 g4 g5 g6 h0 h1 h2 h3 h4 h5 h6 k0 k1 k2 k3 k4 k5 k6 hz5 hz6
      obtain ⟨A2, cap2, hc2⟩ := slen HF.out.ref
      go_wp2_with fail
      go_region_held3 (fun W => W.cell? ⟨kb, 1, none⟩ = some (.slice A2 (L).length cap2)) (go_keep)
        (first
          | (go_at_call 17; refine (count_walk _ _ _ n (L).length (T) HF.out.drew.tab).mono ?_; rintro y w9 ⟨rfl, ⟨q9, rfl⟩⟩))
      clear hc2
      go_wp2_with fail
      go_roundg (len - (i + 1))
      case measure => have := HG.out; omega
      case rel => exact ⟨i + 1, T, L, by go_num, by have := HG.out; omega, HLL, ⟨HF.out.below (pw_below_drewN (Below.refl _ _) (1 + q9))⟩⟩
    case false =>
    cases d2 : ((S i).act == 2)
    case true =>
      have HU := Aside0.mk (HS.out.rel.use HS.out.ref.pos (S i).e.key HK.out (S i).e.depth (S i).low (S i).high)
      go_wp2_with fail
      clear e0 e1 e2 e3 e4 e5 e6 e7 e8 e9
      refine (use_walk _ _ (S i).e.key (S i).e.depth (S i).low (S i).high (getF T n (S i).e.key).1 (getF T n (S i).e.key).2 (fun W hW => get_walk W _ _ n L.length T (S i).e.key HK.out (HS1.out.tab.below hW))).mono ?_
      rintro y w5 ⟨rfl, hb⟩
      rw [show ((getF T n (S i).e.key).1, (getF T n (S i).e.key).2) = getF T n (S i).e.key from rfl, HU.out]
      have HS5 := Aside0.mk (HS1.out.below hb)
      have ho := HO1.out.below HO1.out.1 hb
      obtain ⟨f0, f1, f2, f3, f4, f5, f6, f7, f8, f9⟩ := ho
      clear hb
      go_wp2_with fail
      refine (ruse_walk _ _ (S i).e.key (S i).e.depth (S i).low (S i).high (rgetF L n (S i).e.key).1 (rgetF L n (S i).e.key).2 (fun W hW => rget_walk W kb n L (S i).e.key (HS5.out.ref.below hW) HK.out (fun e he => (HS.out.rel.ok e he).2.2) HL60.out)).mono ?_
      clear f0 f1 f2 f3 f4 f5 f6 f7 f8 f9
      rintro y w6 ⟨rfl, hb⟩
      rw [show ((rgetF L n (S i).e.key).1, (rgetF L n (S i).e.key).2) = rgetF L n (S i).e.key from rfl]
      have HF := Aside0.mk (HS5.out.below hb)
      clear hb
      generalize ruseF (rgetF L n (S i).e.key) (S i).e.depth (S i).low (S i).high = r
      obtain ⟨ru, rb⟩ := r
      obtain ⟨A2, cap2, hc2⟩ := slen HF.out.ref
      go_wp2_with fail
      go_region_held3 (fun W => W.cell? ⟨kb, 1, none⟩ = some (.slice A2 (L).length cap2)) (go_keep)
        (first
          | (go_at_call 17; refine (count_walk _ _ _ n (L).length (T) HF.out.drew.tab).mono ?_; rintro y w9 ⟨rfl, ⟨q9, rfl⟩⟩))
      clear hc2
      go_wp2_with fail
      go_roundg (len - (i + 1))
      case measure => have := HG.out; omega
      case rel => exact ⟨i + 1, T, L, by go_num, by have := HG.out; omega, HLL, ⟨HF.out.below (pw_below_drewN (Below.refl _ _) (1 + q9))⟩⟩
    case false =>
      have HLL0 : Aside0 (([] : List Ent).length ≤ i + 1) := ⟨by simp⟩
      go_wp2_with fail
      clear e0 e1 e2 e3 e4 e5 e6 e7 e8 e9
      refine (clear_walk _ _ _ n L.length T HS1.out.tab).mono ?_
      rintro y w5 ⟨rfl, ht, hb⟩
      have hr := HS1.out.ref.turned hb HS1.out.klt (by have := HS1.out.klt; omega)
      have HR5 := Aside0.mk hr
      have HF : Aside0 (ScrAt w (w5.setCell ⟨kb, 1, none⟩ (.slice none 0 0)) kb n (fun _ => none) []) := ⟨⟨ht.under (Below.setCell (B := kb) (Below.refl _ _) (Nat.le_refl _) _) HS1.out.klt (by have := HS1.out.klt; omega), hr.none, Rel.nil n, (HS1.out.bel.trans (hb.below (by omega) (by omega) HS1.out.bel.size)).setCell (by have := HS1.out.klt; show w.heap.size ≤ kb; omega) _, HS1.out.klt⟩⟩
      obtain ⟨A5, cap5, hc5⟩ := slen hr
      have hf5 := hr.fz
      clear hb ht hr
      go_wp2_with fail
      clear hc5 hf5
      generalize (fun _ => none : Nat → Option Ent) = T' at HF
      generalize ([] : List Ent) = L' at HF HLL0
      obtain ⟨A2, cap2, hc2⟩ := slen HF.out.ref
      go_wp2_with fail
      go_region_held3 (fun W => W.cell? ⟨kb, 1, none⟩ = some (.slice A2 L'.length cap2)) (go_keep)
        (first
          | (go_at_call 17; refine (count_walk _ _ _ n L'.length T' HF.out.drew.tab).mono ?_; rintro y w9 ⟨rfl, ⟨q9, rfl⟩⟩))
      clear hc2
      go_wp2_with fail
      go_roundg (len - (i + 1))
      case measure => have := HG.out; omega
      case rel => exact ⟨i + 1, T', L', by go_num, by have := HG.out; omega, HLL0, ⟨HF.out.below (pw_below_drewN (Below.refl _ _) (1 + q9))⟩⟩
end Go.Proofs.Ytojklhlcoakieaa.P
