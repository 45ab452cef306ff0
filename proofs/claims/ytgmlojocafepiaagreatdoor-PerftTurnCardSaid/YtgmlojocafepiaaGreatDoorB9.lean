/- Walks and plain laws that several statements lean on, joined: no statement of the seat is proved here. -/
import Derived.Deep.Cut
import Derived.Deep.CutRange
import Derived.WalkKit
import Derived.ProofKit
import Derived.Deep.Slices
import Derived.WideShapes
import Derived.ChangeArms
import Derived.DataReads
import Derived.Test.YtgmlojocafepiaaGreatDoorB8
import Derived.Test.YtgmlojocafepiaaGreatDoorB5
import Derived.Test.YtgmlojocafepiaaGreatDoorB6
import Derived.Test.YtgmlojocafepiaaGreatDoorB7

/- Walks: the reference's Cut, cells, Parse, at texts of two fields. -/
namespace Go.Proofs.YtgmlojocafepiaaGreatDoor.K
open Go.RowKit Go.Lib Go.Proofs.YtgmlojocafepiaaGreatDoorW.PrintWords Go.Proofs.YtgmlojocafepiaaGreatDoor.Sp
set_option linter.unusedVariables false
set_option linter.unusedSimpArgs false
attribute [local go_sem] cel_get   -- for this text's walks alone
/-- A row of texts of the call's own, from block B on. -/
def OwnT (W : World) (B : Nat) (v : Value) (l : List ByteArray) : Prop := W.ownsRow B 9 1 v l.length (l.map Value.string)
theorem OwnT.below {W W' : World} {B : Nat} {v : Value} {l : List ByteArray} (h : OwnT W B v l) (hb : Below W.heap.size W W') : OwnT W' B v l := pw_own_below h hb
theorem OwnT.lower {W : World} {B B' : Nat} {v : Value} {l : List ByteArray} (h : OwnT W B v l) (hb : B' ≤ B) : OwnT W B' v l := by
  obtain ⟨h1, h2 | ⟨g, cap, cur, h2, h3, h4⟩⟩ := h
  · exact ⟨h1, .inl h2⟩
  · exact ⟨h1, .inr ⟨g, cap, cur, h2, Nat.le_trans hb h3, h4⟩⟩
/-- Texts in a row, as they are read. -/
structure TxAt (W : World) (v : Value) (l : List ByteArray) : Prop where mk ::
  out : ∃ A cap, v = .slice A l.length cap ∧ (l = [] ∨ ∃ g, A = some ⟨g, 0, none⟩ ∧ g < W.heap.size ∧ ∀ i (h : i < l.length), W.cell? ⟨g, i, none⟩ = some (.string l[i]))
theorem TxAt.below {W W' : World} {v : Value} {l : List ByteArray} (h : TxAt W v l) (hb : Below W.heap.size W W') : TxAt W' v l := by
  obtain ⟨A, cap, hv, h⟩ := h.out
  refine ⟨A, cap, hv, ?_⟩
  rcases h with h | ⟨g, hA, hg, hx⟩
  · exact .inl h
  · exact .inr ⟨g, hA, Nat.lt_of_lt_of_le hg hb.size, fun i hi => (hb.cell (p := ⟨g, i, none⟩) hg).trans (hx i hi)⟩
theorem OwnT.reads {W : World} {B : Nat} {v : Value} {l : List ByteArray} (ho : OwnT W B v l) : TxAt W v l := by
  have ho' : W.ownsRow B 9 1 v l.length (l.map Value.string) := ho
  obtain ⟨hx, ⟨h0, h1⟩ | ⟨g, cap, cur, h0, hb, hg, hn, hc, hs, ht⟩⟩ := ho
  · exact ⟨none, 0, by rw [h0, h1], .inl (List.length_eq_zero_iff.1 h1)⟩
  · refine ⟨_, cap, h0, .inr ⟨g, rfl, blk_lt hg, ?_⟩⟩
    intro i hi
    have hc := ho'.cells (g := g) (by rw [h0]; rfl) i (.string l[i]) (by simp [hi])
    rwa [add_plain] at hc
theorem TxAt.at {W : World} {v : Value} {l : List ByteArray} (h : TxAt W v l) (hl : l ≠ []) : ∃ g cap, v = .slice (some ⟨g, 0, none⟩) l.length cap ∧ g < W.heap.size ∧ ∀ i (h : i < l.length), W.cell? ⟨g, i, none⟩ = some (.string l[i]) := by
  obtain ⟨A, cap, hv, h1 | ⟨g, rfl, h2⟩⟩ := h.out
  · exact absurd h1 hl
  · exact ⟨g, cap, hv, h2⟩
theorem info_string : (Tryz.prog.info? 9).map (fun i => (i.zero, i.size, i.bytes)) = some (some (.string ⟨#[]⟩), 1, 16) := by kernel_rfl
/-- A text cut at a byte: what is done after n bytes; and where the last piece begins. -/
def cutTo (s : ByteArray) (c : Nat) : Nat → List ByteArray × Nat
  | 0 => ([], 0)
  | n + 1 => if cel s n = c then ((cutTo s c n).1 ++ [s.extract (cutTo s c n).2 n], n + 1) else cutTo s c n
def cutS (s : ByteArray) (c : Nat) : List ByteArray := (cutTo s c s.size).1 ++ [s.extract (cutTo s c s.size).2 s.size]
theorem cutTo_le (s : ByteArray) (c n : Nat) : (cutTo s c n).2 ≤ n ∧ (cutTo s c n).1.length ≤ n := by
  induction n with
  | zero => simp [cutTo]
  | succ n ih =>
    unfold cutTo
    split
    · simp; omega
    · omega
structure CtAt (w0 W : World) (v : Value) (l : List ByteArray) : Prop where
  own : OwnT W w0.heap.size v l
  bel : Below w0.heap.size w0 W
theorem CtAt.below {w0 W W' : World} {v : Value} {l : List ByteArray} (h : CtAt w0 W v l) (hb : Below W.heap.size W W') : CtAt w0 W' v l := ⟨h.own.below hb, below_go h.bel hb⟩
theorem CtAt.grown {w0 W W1 : World} {v v1 : Value} {l l1 : List ByteArray} (h : CtAt w0 W v l) (hg : W.grownBy W1 v.ownBlock) (ho : OwnT W1 w0.heap.size v1 l1) : CtAt w0 W1 v1 l1 :=
  ⟨ho, h.bel.grown hg h.bel.size (fun k hk => (World.ownsRow.lt h.own k hk).1)⟩
set_option maxRecDepth 100000 in
set_option maxHeartbeats 4000000 in
theorem cut_c (s : ByteArray) (hs : s.size ≤ 1000) (c : Nat) (hc : c < 256) (w : World) : Calls Tryz.prog 91 #[.string s, .int .u8 (c : Int)] w fun e w' => ∃ v, e = .returned v ∧ OwnT w' w.heap.size v (cutS s c) ∧ Below w.heap.size w w' := by
  obtain ⟨i0, hi0, hx0⟩ := Option.map_eq_some_iff.1 info_string
  simp only [Prod.mk.injEq] at hx0
  have HZ := Aside0.mk (⟨hi0, hx0⟩ : _ ∧ _)
  have HSZ := Aside0.mk hs
  have hsz : (s.size : Int) ≤ 1000 := by omega
  clear hx0 hi0 hs
  go_enter Tryz.func91, Tryz.ntmps91
  go_wp2_with fail
  go_loopg [5, 6, 7] s.size (fun gg s5 s6 s7 wr => ∃ i a : Nat, s7 = .int .i64 i ∧ s6 = .int .i64 a ∧ i + gg = s.size ∧ Aside0 (a = (cutTo s c i).2) ∧ Aside0 (CtAt w wr s5 (cutTo s c i).1))
  case atStart => exact ⟨0, 0, rfl, rfl, by omega, ⟨rfl⟩, ⟨⟨own_nil _ _ _ _, Below.refl _ _⟩⟩⟩
  case round =>
    obtain ⟨i, a, rfl, rfl, hi, HA, HG⟩ := hrel
    have HLE := Aside0.mk (cutTo_le s c i)
    have hai : a ≤ i := by rw [HA.out]; exact HLE.out.1
    cases gk with
    | zero =>
      have hn : ¬ ((i : Int) < (s.size : Int)) := by omega
      have HI := Aside0.mk (show i = s.size by omega)
      have ha0 : (a : Int) ≤ (s.size : Int) := by omega
      have HLN := Aside0.mk (show (cutTo s c i).1.length ≤ 1000 by have := HLE.out.2; have := HI.out; have := HSZ.out; omega)
      have HCS := Aside0.mk (show cutS s c = (cutTo s c i).1 ++ [s.extract a s.size] by unfold cutS; rw [HA.out, HI.out])
      generalize (cutTo s c i).1 = L at *
      clear hi hai
      go_wp2_with (at_builtin; refine hold ?_)
      refine Hold.go ?_
      refine wpList_append_lies _ (by rfl) _ _ _ (by rfl) w.heap.size 9 i0 _ 1 16 Tryz.underlying115 HZ.out.1 HZ.out.2.1 HZ.out.2.2.1 HZ.out.2.2.2 rfl (by omega) _ L.length (L.map Value.string) (by rfl) (HG.out.own.below (below_alloc (Below.refl _ _) _)) ⟨_, 0, none⟩ 1 1 [.string (s.extract a s.size)] (by rfl) (by rfl) (World.news_of_block (cs := #[.string (s.extract a s.size)]) (t := 9) (fr := (0, 0)) (news_own _ _)) (by simp [Value.oneCell']) (by omega) (by have := HLN.out; unfold maxLen; omega) (by have := HLN.out; omega) (by have := HG.out.bel.size; simp; omega) _ rfl ?_
      intro gg cap1 w1 hown1 hgrow hat hlt1
      have HO := Aside0.mk (show CtAt w w1 (.slice (some ⟨gg, 0, none⟩) (L.length + 1) cap1) (L ++ [s.extract a s.size]) from (HG.out.below (below_alloc (Below.refl _ _) _)).grown hgrow (by unfold OwnT; rw [List.map_append, List.length_append]; exact hown1))
      clear hown1 hgrow hat hlt1
      go_wp2_with fail
      go_ret
      exact ⟨_, rfl, by rw [HCS.out]; exact HO.out.own, HO.out.bel⟩
    | succ g =>
      have hn : (i : Int) < (s.size : Int) := by omega
      have hil : i < s.size := by omega
      have HI := Aside0.mk (show i + 1 + g = s.size by omega)
      have hq : (((cel s i : Nat) : Int) == (c : Int)) = (cel s i == c) := eqK _ _
      have HST := Aside0.mk (show cutTo s c (i + 1) = if cel s i = c then ((cutTo s c i).1 ++ [s.extract (cutTo s c i).2 i], i + 1) else cutTo s c i from rfl)
      have HLN := Aside0.mk (show (cutTo s c i).1.length ≤ 1000 by have := HLE.out.2; have := HI.out; have := HSZ.out; omega)
      clear hi
      cases hcc : (cel s i == c)
      case false =>
        rw [hcc] at hq
        have HN := Aside0.mk (show cutTo s c (i + 1) = cutTo s c i by rw [HST.out, if_neg (by simpa using hcc)])
        clear hcc HST
        go_wp2_with fail
        go_roundg g
        case measure => omega
        case rel => exact ⟨i + 1, a, by go_num, rfl, by have := HI.out; omega, ⟨by rw [HN.out]; exact HA.out⟩, ⟨by rw [HN.out]; exact HG.out⟩⟩
      case true =>
        rw [hcc] at hq
        have HN := Aside0.mk (show cutTo s c (i + 1) = ((cutTo s c i).1 ++ [s.extract a i], i + 1) by rw [HST.out, if_pos (by simpa using hcc), HA.out])
        have ha0 : (a : Int) ≤ (i : Int) := by omega
        have hn2 : (i : Int) ≤ (s.size : Int) := by omega
        have hil2 : i ≤ s.size := by omega
        clear hcc HST HA
        generalize (cutTo s c i).1 = L at *
        go_wp2_with (at_builtin; refine hold ?_)
        refine Hold.go ?_
        refine wpList_append_lies _ (by rfl) _ _ _ (by rfl) w.heap.size 9 i0 _ 1 16 Tryz.underlying115 HZ.out.1 HZ.out.2.1 HZ.out.2.2.1 HZ.out.2.2.2 rfl (by omega) _ L.length (L.map Value.string) (by rfl) (HG.out.own.below (below_alloc (Below.refl _ _) _)) ⟨_, 0, none⟩ 1 1 [.string (s.extract a i)] (by rfl) (by rfl) (World.news_of_block (cs := #[.string (s.extract a i)]) (t := 9) (fr := (0, 0)) (news_own _ _)) (by simp [Value.oneCell']) (by omega) (by have := HLN.out; unfold maxLen; omega) (by have := HLN.out; omega) (by have := HG.out.bel.size; simp; omega) _ rfl ?_
        intro gg cap1 w1 hown1 hgrow hat hlt1
        have HO := Aside0.mk (show CtAt w w1 (.slice (some ⟨gg, 0, none⟩) (L.length + 1) cap1) (L ++ [s.extract a i]) from (HG.out.below (below_alloc (Below.refl _ _) _)).grown hgrow (by unfold OwnT; rw [List.map_append, List.length_append]; exact hown1))
        clear hown1 hgrow hat hlt1 HG
        go_wp2_with fail
        go_roundg g
        case measure => omega
        case rel => exact ⟨i + 1, i + 1, by go_num, by go_num, by have := HI.out; omega, ⟨by rw [HN.out]⟩, ⟨by rw [HN.out]; exact HO.out⟩⟩
/-- The squares of a board's text, rank by rank, the last ones first: after m of the ten. -/
def celTo (l : List ByteArray) (m : Nat) : List Nat := (List.range m).flatMap (fun j => rkTo (l.getD (9 - j) ⟨#[]⟩) (l.getD (9 - j) ⟨#[]⟩).size)
theorem celTo_succ (l : List ByteArray) (m : Nat) : celTo l (m + 1) = celTo l m ++ rkTo (l.getD (9 - m) ⟨#[]⟩) (l.getD (9 - m) ⟨#[]⟩).size := by
  unfold celTo; rw [List.range_succ, List.flatMap_append]; simp
theorem strB_append (a b : List Nat) : strB a ++ strB b = strB (a ++ b) := by
  apply ByteArray.ext
  rw [ByteArray.data_append]
  simp [strB]
theorem rkOk_len {s : ByteArray} (h : rkOk s = true) : (rkTo s s.size).length = 9 := by
  unfold rkOk at h
  simp only [Bool.and_eq_true, beq_iff_eq] at h
  exact h.2.2
theorem celTo_len (l : List ByteArray) (hl : l.length = 10) (h : ∀ x ∈ l, rkOk x = true) (m : Nat) (hm : m ≤ 10) : (celTo l m).length = 9 * m := by
  induction m with
  | zero => simp [celTo]
  | succ m ih =>
    rw [celTo_succ, List.length_append, ih (by omega)]
    have hi : 9 - m < l.length := by omega
    have hg : l.getD (9 - m) ⟨#[]⟩ = l[9 - m] := by simp [List.getD_eq_getElem?_getD, hi]
    rw [hg, rkOk_len (h _ (List.getElem_mem hi))]
    omega
set_option maxRecDepth 100000 in
set_option maxHeartbeats 4000000 in
theorem cells4_c (s : ByteArray) (hs : s.size ≤ 1000) (l : List ByteArray) (hcut : cutS s 47 = l) (hl : l.length = 10) (hok : ∀ x ∈ l, rkOk x = true) (w : World) :
    Calls Tryz.prog 92 #[.string s] w fun e w' => e = .returned (.tuple #[.string (strB (celTo l 10)), .bool true]) ∧ Below w.heap.size w w' := by
  have HC := Aside0.mk (fun W => cut_c s hs 47 (by omega) W)
  rw [hcut] at HC
  have HOK := Aside0.mk hok
  have HLN := Aside0.mk (fun m hm => celTo_len l hl hok m hm)
  have HL := Aside0.mk hl
  clear hs hcut hl hok
  go_enter Tryz.func92, Tryz.ntmps92
  go_wp2_with fail
  refine (HC.out _).mono ?_
  rintro e w1 ⟨v, rfl, ho, hb⟩
  have HB := Aside0.mk hb
  have HT := Aside0.mk ho.reads
  clear ho hb
  obtain ⟨g0, cap0, rfl, _, _⟩ := HT.out.at (fun h => by have := HL.out; rw [h] at this; simp at this)
  rw [HL.out]
  go_wp2_with fail
  go_loopg [5, 6, 7, 8] 10 (fun gg s5 s6 _ _ wr => ∃ (m : Nat) (acc : ByteArray), m = gg ∧ m ≤ 10 ∧ s6 = .int .i64 ((m : Int) - 1) ∧ s5 = .string acc ∧ Aside0 (acc = strB (celTo l (10 - m))) ∧ Aside0 (TxAt wr (.slice (some ⟨g0, 0, none⟩) l.length cap0) l) ∧ Aside0 (Below w.heap.size w wr))
  case atStart => exact ⟨10, ⟨#[]⟩, rfl, by omega, rfl, rfl, ⟨rfl⟩, HT, HB⟩
  case round =>
    clear HT HB
    obtain ⟨m, acc, rfl, hm, rfl, rfl, HACC, HT, HB⟩ := hrel
    cases m with
    | zero =>
      have hn : ¬ (0 ≤ ((0 : Nat) : Int) - 1) := by omega
      go_wp2_with fail
      refine bodyPost_ret (v := .tuple #[.string acc, .bool true]) (by simp [results, Tryz.results92, go_sem]) rfl ?_
      exact ⟨by rw [HACC.out], HB.out⟩
    | succ g =>
      have hg : ((g + 1 : Nat) : Int) - 1 = (g : Int) := by omega
      rw [hg]
      have hn : 0 ≤ (g : Int) := by omega
      have hg10 : (g : Int) < 10 := by omega
      have hgl : g < l.length := by rw [HL.out]; omega
      have hx := HT.out
      obtain ⟨g1, cap1, hA, _, hcell⟩ := hx.at (fun h => by rw [h] at hgl; simp at hgl)
      simp only [Value.slice.injEq, Option.some.injEq, Addr.mk.injEq, true_and, and_true] at hA
      obtain ⟨rfl, rfl⟩ := hA
      have c0 := hcell g hgl
      have hrk := HOK.out _ (List.getElem_mem hgl)
      have HR := Aside0.mk (fun W => rank4_c l[g] hrk W)
      have HST := Aside0.mk (show celTo l (10 - g) = celTo l (10 - (g + 1)) ++ rkTo l[g] l[g].size by
        have := celTo_succ l (10 - (g + 1))
        rw [show 10 - (g + 1) + 1 = 10 - g by omega, show 9 - (10 - (g + 1)) = g by omega, show l.getD g ⟨#[]⟩ = l[g] by simp [List.getD_eq_getElem?_getD, hgl]] at this
        exact this)
      have hz1 : acc.size ≤ 90 := by rw [HACC.out, strB_size, HLN.out _ (by omega)]; omega
      have hz2 : (strB (rkTo l[g] l[g].size)).size = 9 := by rw [strB_size, rkOk_len hrk]
      have HG := Aside0.mk hm
      generalize l[g] = lg at *
      generalize hrr : rkTo lg lg.size = rr at *
      have HRR := Aside0.mk hrr
      generalize hsr : strB rr = sr at *
      have HSR := Aside0.mk hsr
      clear hrr hsr hrk hcell hx hgl hg hm
      go_wp2_with fail
      refine (HR.out _).mono ?_
      rintro e w2 ⟨rfl, hb⟩
      have HT2 := Aside0.mk (HT.out.below hb)
      have HB2 := Aside0.mk (below_go HB.out hb)
      clear hb HT HB c0
      go_wp2_with fail
      go_roundg g
      case measure => omega
      case rel => exact ⟨g, _, rfl, by have := HG.out; omega, by first | rfl | rw [show wrap64 ((g : Int) - 1) = (g : Int) - 1 by have := HG.out; unfold wrap64; omega], rfl, ⟨by rw [HST.out, HACC.out, ← HSR.out, strB_append]⟩, HT2, HB2⟩
/-- The result's box. -/
structure ZeAt (w0 W : World) : Prop where
  r0 : W.cell? ⟨w0.heap.size, 0, none⟩ = some (.string ByteArray.empty)
  r1 : W.cell? ⟨w0.heap.size, 1, none⟩ = some (.int .i64 0)
  r2 : W.cell? ⟨w0.heap.size, 2, none⟩ = some (.int .i64 0)
  r3 : W.cell? ⟨w0.heap.size, 3, none⟩ = some (.int .i64 0)
  fr : ∀ k, W.frozen? ⟨w0.heap.size, k, none⟩ = false
  bel : Below w0.heap.size w0 W
  lt : w0.heap.size < W.heap.size
theorem ZeAt.below {w0 W W' : World} (h : ZeAt w0 W) (hb : Below W.heap.size W W') : ZeAt w0 W' :=
  ⟨below_cell hb _ _ _ h.r0, below_cell hb _ _ _ h.r1, below_cell hb _ _ _ h.r2, below_cell hb _ _ _ h.r3, fun k => (hb.frozen (p := ⟨w0.heap.size, k, none⟩) h.lt).trans (h.fr k), below_go h.bel hb, Nat.lt_of_lt_of_le h.lt hb.size⟩
theorem ZeAt.new (w : World) : ZeAt w (w.alloc (.cells #[.string ByteArray.empty, .int .i64 0, .int .i64 0, .int .i64 0] 23)) :=
  ⟨by simp [World.cell?_alloc_at], by simp [World.cell?_alloc_at], by simp [World.cell?_alloc_at], by simp [World.cell?_alloc_at], fun k => World.frozen?_alloc_at _ _ _ k rfl, below_alloc (Below.refl _ _) _, by simp⟩
set_option maxRecDepth 100000 in
set_option maxHeartbeats 4000000 in
theorem parse_c (s : ByteArray) (hs : s.size ≤ 1000) (a : ByteArray) (hcut : cutS s 32 = [a, ⟨#[119]⟩]) (ha : a.size ≤ 1000) (l : List ByteArray) (hcut2 : cutS a 47 = l) (hl : l.length = 10) (hok : l.all rkOk = true) (b : ByteArray) (hb : strB (celTo l 10) = b) (hck : checkP ⟨b, 0, 0, 1⟩ = 0) (w : World) :
    Calls Tryz.prog 51 #[.string s] w fun e w' => e = .returned (.tuple #[posV ⟨b, 0, 0, 1⟩, .int .i64 0]) ∧ Below w.heap.size w w' := by
  have HC := Aside0.mk (fun W => cut_c s hs 32 (by omega) W)
  rw [hcut] at HC
  have HCL := Aside0.mk (fun W => cells4_c a ha l hcut2 hl (List.all_eq_true.1 hok) W)
  rw [hb] at HCL
  have hbd := board_size (argOk_yes (checkP_board hck)).1
  have HCK := Aside0.mk (fun W => rcheck_c ⟨b, 0, 0, 1⟩ (by show b.size ≤ _; rw [show b.size = 90 from hbd]; unfold maxLen; omega) W)
  rw [hck] at HCK
  have hu := Tryz.underlying23
  have hs1 : (s.size : Int) ≤ 1000 := by omega
  have HZ := Aside0.mk (ZeAt.new w)
  clear hs hcut ha hcut2 hl hok hb hck hbd
  go_enter Tryz.func51, Tryz.ntmps51
  go_wp2_with fail
  refine (HC.out _).mono ?_
  rintro e w1 ⟨v, rfl, ho, hb⟩
  have HZ1 := Aside0.mk ((HZ.out.below (below_alloc (Below.refl _ _) _)).below hb)
  have HT := Aside0.mk ho.reads
  clear ho hb HZ
  obtain ⟨g0, cap0, rfl, _, hc⟩ := HT.out.at (by simp)
  have c0 : w1.cell? ⟨g0, 0, none⟩ = some (.string a) := hc 0 (by simp)
  clear hc
  go_wp2_with fail
  refine (HCL.out _).mono ?_
  rintro e w2 ⟨rfl, hb⟩
  have HZ2 := Aside0.mk ((HZ1.out.below hb).below (below_alloc (Below.refl _ _) (.cells #[.string b, .int .i64 0, .int .i64 0, .int .i64 1] 23)))
  have HT2 := Aside0.mk ((HT.out.below hb).below (below_alloc (Below.refl _ _) (.cells #[.string b, .int .i64 0, .int .i64 0, .int .i64 1] 23)))
  have HQ := Aside0.mk (BoxP.new w2 ⟨b, 0, 0, 1⟩)
  have hn2 : w2.heap.size ≠ w.heap.size := World.new_ne w2 _ (HZ1.out.below hb).r0
  clear hb HT HZ1 c0
  go_upto_region 9 with fail
  generalize w2.heap.size = qb at *
  generalize (w2.alloc (.cells #[.string b, .int .i64 0, .int .i64 0, .int .i64 1] 23)) = w3 at *
  obtain ⟨g1, cap1, hA, _, hc⟩ := HT2.out.at (by simp)
  simp only [Value.slice.injEq, Option.some.injEq, Addr.mk.injEq, true_and, and_true] at hA
  obtain ⟨rfl, rfl⟩ := hA
  have c1 : w3.cell? ⟨g0, 1, none⟩ = some (.string ⟨#[119]⟩) := hc 1 (by simp)
  obtain ⟨q0, q1, q2, q3⟩ := HQ.out
  clear hc
  go_wp2_with fail
  refine (HCK.out _).mono ?_
  rintro e w4 ⟨rfl, hb⟩
  have HZ4 := Aside0.mk (HZ2.out.below hb)
  clear q0 q1 q2 q3
  obtain ⟨q0, q1, q2, q3⟩ := HQ.out.below hb
  clear hb HZ2 HT2 c1
  have fr := HZ4.out.fr
  have r0 := HZ4.out.r0
  have r1 := HZ4.out.r1
  have r2 := HZ4.out.r2
  have r3 := HZ4.out.r3
  go_wp2_with fail
  refine bodyPost_ret (by simp [results, Tryz.results51, go_sem, r0, r1, r2, r3]; try rfl) rfl ?_
  exact ⟨rfl, by (repeat' (first | (with_reducible exact Below.refl _ _) | (with_reducible refine pw_below_drewN ?_ _) | (with_reducible refine below_alloc ?_ _) | (with_reducible refine Below.drew ?_) | (with_reducible refine Below.setCell ?_ ?_ _) | (simp; done))) <;> first | exact HZ4.out.bel | (simp; done) | (simp; omega)⟩
end Go.Proofs.YtgmlojocafepiaaGreatDoor.K

/- The pseudo laws' live: some answers, by the contracts and the kernel's reckoning. -/
namespace Go.Proofs.YtgmlojocafepiaaGreatDoor.K
open Go.RowKit Go.Lib Go.Proofs.YtgmlojocafepiaaGreatDoorW.PrintWords Go.Proofs.YtgmlojocafepiaaGreatDoor.Sp
set_option linter.unusedVariables false
set_option linter.unusedSimpArgs false
abbrev startB : ByteArray := ⟨#[82, 78, 66, 65, 75, 65, 66, 78, 82, 46, 46, 46, 46, 46, 46, 46, 46, 46, 46, 67, 46, 46, 46, 46, 46, 67, 46, 80, 46, 80, 46, 80, 46, 80, 46, 80, 46, 46, 46, 46, 46, 46, 46, 46, 46, 46, 46, 46, 46, 46, 46, 46, 46, 46, 112, 46, 112, 46, 112, 46, 112, 46, 112, 46, 99, 46, 46, 46, 46, 46, 99, 46, 46, 46, 46, 46, 46, 46, 46, 46, 46, 114, 110, 98, 97, 107, 97, 98, 110, 114]⟩
abbrev startP : Pos := ⟨startB, 0, 0, 1⟩
theorem start_moves : (gathP startP (fun _ => true)).length = 44 ∧ (gathP startP (fun _ => true))[0]? = some (0, 9) ∧ (gathP startP (fun x => x != 46)).length = 2 := by decide +kernel
theorem start_apply : (applyP startP ⟨19, 82⟩).1.side = 1 ∧ (applyP startP ⟨19, 82⟩).1.clock = 0 ∧ (applyP startP ⟨19, 82⟩).1.full = 1 ∧ (applyP startP ⟨19, 82⟩).2 = (110, 0) ∧ (applyP startP ⟨0, 90⟩).2.2 = 7 ∧ (applyP zeroP ⟨0, 0⟩).2.2 = 1 := by decide +kernel
end Go.Proofs.YtgmlojocafepiaaGreatDoor.K

/- The texts and boards of the laws' live: read, and as numbers. -/
namespace Go.Proofs.YtgmlojocafepiaaGreatDoor.K
open Go.RowKit Go.Lib Go.Proofs.YtgmlojocafepiaaGreatDoorW.PrintWords Go.Proofs.YtgmlojocafepiaaGreatDoor.Sp
set_option linter.unusedVariables false
set_option linter.unusedSimpArgs false
abbrev mateT : ByteArray := ⟨#[51, 107, 53, 47, 57, 47, 57, 47, 57, 47, 57, 47, 57, 47, 57, 47, 57, 47, 51, 114, 53, 47, 114, 51, 75, 52, 32, 119]⟩
abbrev mateF : ByteArray := ⟨#[51, 107, 53, 47, 57, 47, 57, 47, 57, 47, 57, 47, 57, 47, 57, 47, 57, 47, 51, 114, 53, 47, 114, 51, 75, 52]⟩
abbrev mateB : ByteArray := ⟨#[114, 46, 46, 46, 75, 46, 46, 46, 46, 46, 46, 46, 114, 46, 46, 46, 46, 46, 46, 46, 46, 46, 46, 46, 46, 46, 46, 46, 46, 46, 46, 46, 46, 46, 46, 46, 46, 46, 46, 46, 46, 46, 46, 46, 46, 46, 46, 46, 46, 46, 46, 46, 46, 46, 46, 46, 46, 46, 46, 46, 46, 46, 46, 46, 46, 46, 46, 46, 46, 46, 46, 46, 46, 46, 46, 46, 46, 46, 46, 46, 46, 46, 46, 46, 107, 46, 46, 46, 46, 46]⟩
abbrev mateP : Pos := ⟨mateB, 0, 0, 1⟩
theorem mate_parts : cutS mateT 32 = [mateF, ⟨#[119]⟩] ∧ (cutS mateF 47).length = 10 ∧ (cutS mateF 47).all rkOk = true ∧ strB (celTo (cutS mateF 47) 10) = mateB ∧ checkP mateP = 0 := by decide +kernel
theorem mate_parse (w : World) : Calls Tryz.prog 51 #[.string mateT] w fun e w' => e = .returned (.tuple #[posV mateP, .int .i64 0]) ∧ Below w.heap.size w w' := by
  obtain ⟨h1, h2, h3, h4, h5⟩ := mate_parts
  exact parse_c mateT (by decide) mateF h1 (by decide) _ rfl h2 h3 _ h4 h5 w
abbrev staleT : ByteArray := ⟨#[53, 107, 51, 47, 57, 47, 57, 47, 57, 47, 57, 47, 57, 47, 57, 47, 57, 47, 51, 114, 53, 47, 52, 75, 52, 32, 119]⟩
abbrev staleF : ByteArray := ⟨#[53, 107, 51, 47, 57, 47, 57, 47, 57, 47, 57, 47, 57, 47, 57, 47, 57, 47, 51, 114, 53, 47, 52, 75, 52]⟩
abbrev staleB : ByteArray := ⟨#[46, 46, 46, 46, 75, 46, 46, 46, 46, 46, 46, 46, 114, 46, 46, 46, 46, 46, 46, 46, 46, 46, 46, 46, 46, 46, 46, 46, 46, 46, 46, 46, 46, 46, 46, 46, 46, 46, 46, 46, 46, 46, 46, 46, 46, 46, 46, 46, 46, 46, 46, 46, 46, 46, 46, 46, 46, 46, 46, 46, 46, 46, 46, 46, 46, 46, 46, 46, 46, 46, 46, 46, 46, 46, 46, 46, 46, 46, 46, 46, 46, 46, 46, 46, 46, 46, 107, 46, 46, 46]⟩
abbrev staleP : Pos := ⟨staleB, 0, 0, 1⟩
theorem stale_parts : cutS staleT 32 = [staleF, ⟨#[119]⟩] ∧ (cutS staleF 47).length = 10 ∧ (cutS staleF 47).all rkOk = true ∧ strB (celTo (cutS staleF 47) 10) = staleB ∧ checkP staleP = 0 := by decide +kernel
theorem stale_parse (w : World) : Calls Tryz.prog 51 #[.string staleT] w fun e w' => e = .returned (.tuple #[posV staleP, .int .i64 0]) ∧ Below w.heap.size w w' := by
  obtain ⟨h1, h2, h3, h4, h5⟩ := stale_parts
  exact parse_c staleT (by decide) staleF h1 (by decide) _ rfl h2 h3 _ h4 h5 w
abbrev startN : Nat := 1868396417696219742832486546452904002272599990723053606518375936556489058356868476713422886370221736333484869
abbrev mateN : Nat := 1119872371088902105278721140284222139060822748617324767449994550481895935590080472690442124335524151308
abbrev staleN : Nat := 286687326998758938951352611912760867599570623646035140467198604923365359511060601008752322516465431412736
theorem start_on : OnB startB (celQ startN) := ⟨by decide +kernel, by
  have h : ∀ n : Fin 90, cel startB n.1 = celQ startN n.1 := by decide +kernel
  exact fun n hn => h ⟨n, hn⟩⟩
theorem mate_on : OnB mateB (celQ mateN) := ⟨by decide +kernel, by
  have h : ∀ n : Fin 90, cel mateB n.1 = celQ mateN n.1 := by decide +kernel
  exact fun n hn => h ⟨n, hn⟩⟩
theorem stale_on : OnB staleB (celQ staleN) := ⟨by decide +kernel, by
  have h : ∀ n : Fin 90, cel staleB n.1 = celQ staleN n.1 := by decide +kernel
  exact fun n hn => h ⟨n, hn⟩⟩
theorem start_well : wellS startP = 0 := by decide +kernel
theorem mate_well : wellS mateP = 0 := by decide +kernel
theorem stale_well : wellS staleP = 0 := by decide +kernel
def startM : List Mv := [(0, 9), (0, 18), (1, 18), (1, 20), (2, 18), (2, 22), (3, 13), (4, 13), (5, 13), (6, 22), (6, 26), (7, 24), (7, 26), (8, 17), (8, 26), (19, 10), (19, 18), (19, 20), (19, 21), (19, 22), (19, 23), (19, 24), (19, 28), (19, 37), (19, 46), (19, 55), (19, 82), (25, 16), (25, 20), (25, 21), (25, 22), (25, 23), (25, 24), (25, 26), (25, 34), (25, 43), (25, 52), (25, 61), (25, 88), (27, 36), (29, 38), (31, 40), (33, 42), (35, 44)]
theorem start_list : legalL startP = startM := by
  rw [legal_eq start_well, legal_C start_on 0 (.inl rfl)]
  decide +kernel
theorem start_legal : (legalL startP).length = 44 := by rw [start_list]; rfl
end Go.Proofs.YtgmlojocafepiaaGreatDoor.K

/- The legal laws' live: some answers, by the kernel's reckoning. -/
namespace Go.Proofs.YtgmlojocafepiaaGreatDoor.K
open Go.RowKit Go.Lib Go.Proofs.YtgmlojocafepiaaGreatDoorW.PrintWords Go.Proofs.YtgmlojocafepiaaGreatDoor.Sp
set_option linter.unusedVariables false
set_option linter.unusedSimpArgs false
theorem start_caps : (legalC startP).length = 2 := by unfold legalC; rw [start_list]; decide +kernel
theorem start_is : isS startP ⟨0, 9⟩ = true ∧ isS startP ⟨0, 1⟩ = false := by decide +kernel
theorem start_end : endS startP = 0 := by decide +kernel
theorem mate_end : endS mateP = 1 := by decide +kernel
theorem stale_end : endS staleP = 2 := by decide +kernel
theorem start_make : (makeP startP ⟨19, 82⟩).1.side = 1 ∧ (makeP startP ⟨19, 82⟩).2 = (110, 0) ∧ (makeP startP ⟨0, 0⟩).2.2 = 7 := by decide +kernel
end Go.Proofs.YtgmlojocafepiaaGreatDoor.K

/- The legal laws' live, walked. -/
namespace Go.Proofs.YtgmlojocafepiaaGreatDoor.K
open Go.RowKit Go.Lib Go.Proofs.YtgmlojocafepiaaGreatDoorW.PrintWords Go.Proofs.YtgmlojocafepiaaGreatDoor.Sp
set_option linter.unusedVariables false
set_option linter.unusedSimpArgs false
/-- The boxes of live. -/
structure L8At (w0 W : World) (b2 b4 b6 : Nat) (q : Pos) : Prop where
  a : LmAt w0 W startP
  x2 : BoxP W b2 mateP
  x4 : BoxP W b4 staleP
  x6 : BoxP W b6 q
theorem L8At.below {w0 W W' : World} {b2 b4 b6 : Nat} {q : Pos} (h : L8At w0 W b2 b4 b6 q) (hb : Below W.heap.size W W') : L8At w0 W' b2 b4 b6 q :=
  ⟨h.a.below hb, h.x2.below hb, h.x4.below hb, h.x6.below hb⟩
set_option maxRecDepth 100000 in
set_option maxHeartbeats 4000000 in
theorem live8_c (w : World) (hT : TabW w) : Calls Tryz.prog 14 #[] w fun e w' => e = .returned (.bool true) ∧ Below w.heap.size w w' := by
  have HT := Aside0.mk (fun (W : World) (hb : Below w.heap.size w W) => hT.below hb)
  have HM := Aside0.mk (fun (W : World) (hT : TabW W) => lmoves_c startP W hT)
  have HC := Aside0.mk (fun (W : World) (hT : TabW W) => lcap_c startP W hT)
  have HI1 := Aside0.mk (fun (W : World) (hT : TabW W) => is8_c startP ⟨0, 9⟩ W hT)
  have HI2 := Aside0.mk (fun (W : World) (hT : TabW W) => is8_c startP ⟨0, 1⟩ W hT)
  have HE0 := Aside0.mk (fun (W : World) (hT : TabW W) => lend_c startP W hT)
  have HE1 := Aside0.mk (fun (W : World) (hT : TabW W) => lend_c mateP W hT)
  have HE2 := Aside0.mk (fun (W : World) (hT : TabW W) => lend_c staleP W hT)
  have HK1 := Aside0.mk (fun (W : World) (hT : TabW W) => make_c startP ⟨19, 82⟩ W hT)
  have HK2 := Aside0.mk (fun (W : World) (hT : TabW W) => make_c startP ⟨0, 0⟩ W hT)
  unfold MakeIs at HK1 HK2
  obtain ⟨m1, m2, m3⟩ := start_make
  rw [start_is.1] at HI1
  rw [start_is.2] at HI2
  rw [start_end] at HE0
  rw [mate_end] at HE1
  rw [stale_end] at HE2
  have HL1 := Aside0.mk start_legal
  have HL2 := Aside0.mk start_caps
  generalize legalL startP = l1 at *
  generalize legalC startP = l2 at *
  generalize makeP startP ⟨19, 82⟩ = k1 at *
  generalize makeP startP ⟨0, 0⟩ = k2 at *
  obtain ⟨q1, c1, f1⟩ := k1
  obtain ⟨q2, c2, f2⟩ := k2
  simp only [Prod.mk.injEq] at m1 m2 m3
  obtain ⟨rfl, rfl⟩ := m2
  subst m3
  have HQS := Aside0.mk m1
  have HA0 := Aside0.mk (LmAt.new w startP)
  have hu := Tryz.underlying23
  have hu2 := Tryz.underlying32
  clear hT m1
  go_enter Tryz.func14, Tryz.ntmps14
  go_wp2_with fail
  refine (mate_parse _).mono ?_
  rintro e w1 ⟨rfl, hb⟩
  have HA1 := Aside0.mk ((HA0.out.below hb).below (below_alloc (Below.refl _ _) (.cells #[.string mateB, .int .i64 0, .int .i64 0, .int .i64 1] 23)))
  have HX2 := Aside0.mk (BoxP.new w1 mateP)
  clear hb HA0
  go_upto_region 3 with fail
  generalize w1.heap.size = b2 at *
  generalize (w1.alloc (.cells #[.string mateB, .int .i64 0, .int .i64 0, .int .i64 1] 23)) = w2 at *
  go_wp2_with fail
  refine (stale_parse _).mono ?_
  rintro e w3 ⟨rfl, hb⟩
  have HA3 := Aside0.mk ((HA1.out.below hb).below (below_alloc (Below.refl _ _) (.cells #[.string staleB, .int .i64 0, .int .i64 0, .int .i64 1] 23)))
  have HX23 := Aside0.mk ((HX2.out.below hb).below (below_alloc (Below.refl _ _) (.cells #[.string staleB, .int .i64 0, .int .i64 0, .int .i64 1] 23)))
  have HX4 := Aside0.mk (BoxP.new w3 staleP)
  clear hb HA1 HX2
  go_upto_region 4 with fail
  generalize w3.heap.size = b4 at *
  generalize (w3.alloc (.cells #[.string staleB, .int .i64 0, .int .i64 0, .int .i64 1] 23)) = w4 at *
  obtain ⟨e0, e1, e2, e3⟩ := HA3.out.box
  go_wp2_with fail
  refine (HK1.out _ (HT.out _ HA3.out.bel)).mono ?_
  rintro e w5 ⟨rfl, hb⟩
  have hnb : Below w5.heap.size w5 (w5.alloc (.cells #[.string q1.cells, .int .i64 q1.side, .int .i64 q1.clock, .int .i64 q1.full] 23)) := below_alloc (Below.refl _ _) _
  have H5 := Aside0.mk (show L8At w _ b2 b4 w5.heap.size q1 from ⟨(HA3.out.below hb).below hnb, (HX23.out.below hb).below hnb, (HX4.out.below hb).below hnb, BoxP.new w5 q1⟩)
  clear hb hnb HA3 HX23 HX4 e0 e1 e2 e3
  go_upto_region 5 with fail
  generalize w5.heap.size = b6 at *
  generalize (w5.alloc (.cells #[.string q1.cells, .int .i64 q1.side, .int .i64 q1.clock, .int .i64 q1.full] 23)) = w6 at *
  obtain ⟨e0, e1, e2, e3⟩ := H5.out.a.box
  go_wp2_with fail
  refine (HK2.out _ (HT.out _ H5.out.a.bel)).mono ?_
  rintro e w7 ⟨rfl, hb⟩
  have H7 := Aside0.mk ((H5.out.below hb).below (below_alloc (Below.refl _ _) (.cells #[.string q2.cells, .int .i64 q2.side, .int .i64 q2.clock, .int .i64 q2.full] 23)))
  clear hb H5 e0 e1 e2 e3
  go_upto_region 6 with fail
  generalize w7.heap.size = b9 at *
  generalize (w7.alloc (.cells #[.string q2.cells, .int .i64 q2.side, .int .i64 q2.clock, .int .i64 q2.full] 23)) = w8 at *
  obtain ⟨e0, e1, e2, e3⟩ := H7.out.a.box
  go_wp2_with fail
  refine (HM.out _ (HT.out _ H7.out.a.bel)).mono ?_
  rintro e w9 ⟨v1, rfl, ho, hb⟩
  have H9 := Aside0.mk (H7.out.below hb)
  obtain ⟨A1, p1, hv⟩ := ho.reads.form
  rw [HL1.out] at hv
  subst hv
  clear ho hb H7 e0 e1 e2 e3
  obtain ⟨e0, e1, e2, e3⟩ := H9.out.a.box
  go_wp2_with fail
  refine (HC.out _ (HT.out _ H9.out.a.bel)).mono ?_
  rintro e w10 ⟨v2, rfl, ho, hb⟩
  have H10 := Aside0.mk (H9.out.below hb)
  obtain ⟨A2, p2, hv⟩ := ho.reads.form
  rw [HL2.out] at hv
  subst hv
  clear ho hb H9 e0 e1 e2 e3
  obtain ⟨e0, e1, e2, e3⟩ := H10.out.a.box
  go_wp2_with fail
  refine (HI1.out _ (HT.out _ H10.out.a.bel)).mono ?_
  rintro e w11 ⟨rfl, hb⟩
  have H11 := Aside0.mk (H10.out.below hb)
  clear hb H10 e0 e1 e2 e3
  obtain ⟨e0, e1, e2, e3⟩ := H11.out.a.box
  go_wp2_with fail
  refine (HI2.out _ (HT.out _ H11.out.a.bel)).mono ?_
  rintro e w12 ⟨rfl, hb⟩
  have H12 := Aside0.mk (H11.out.below hb)
  clear hb H11 e0 e1 e2 e3
  obtain ⟨e0, e1, e2, e3⟩ := H12.out.a.box
  go_wp2_with fail
  refine (HE0.out _ (HT.out _ H12.out.a.bel)).mono ?_
  rintro e w13 ⟨rfl, hb⟩
  have H13 := Aside0.mk (H12.out.below hb)
  clear hb H12 e0 e1 e2 e3
  obtain ⟨e0, e1, e2, e3⟩ := H13.out.x2
  go_wp2_with fail
  refine (HE1.out _ (HT.out _ H13.out.a.bel)).mono ?_
  rintro e w14 ⟨rfl, hb⟩
  have H14 := Aside0.mk (H13.out.below hb)
  clear hb H13 e0 e1 e2 e3
  obtain ⟨e0, e1, e2, e3⟩ := H14.out.x4
  go_wp2_with fail
  refine (HE2.out _ (HT.out _ H14.out.a.bel)).mono ?_
  rintro e w15 ⟨rfl, hb⟩
  have H15 := Aside0.mk (H14.out.below hb)
  clear hb H14 e0 e1 e2 e3
  obtain ⟨e0, e1, e2, e3⟩ := H15.out.x6
  rw [HQS.out] at e1
  go_wp2_with fail
  go_ret
  exact ⟨rfl, H15.out.a.bel⟩
end Go.Proofs.YtgmlojocafepiaaGreatDoor.K

/- A row of moves beside a position's box, and a position that is made; what is behind a move that may be made. -/
namespace Go.Proofs.YtgmlojocafepiaaGreatDoor.K
open Go.RowKit Go.Lib Go.Proofs.YtgmlojocafepiaaGreatDoorW.PrintWords Go.Proofs.YtgmlojocafepiaaGreatDoor.Sp
set_option linter.unusedVariables false
set_option linter.unusedSimpArgs false
attribute [local go_sem] cel_get   -- for this text's walks alone
structure RowAt (w0 W : World) (p : Pos) (v : Value) (l : List Mv) : Prop where
  box : BoxP W w0.heap.size p
  m1 : MvAt W w0.heap.size v l
  bel : Below w0.heap.size w0 W
theorem RowAt.below {w0 W W' : World} {p : Pos} {v : Value} {l : List Mv} (h : RowAt w0 W p v l) (hb : Below W.heap.size W W') : RowAt w0 W' p v l := ⟨h.box.below hb, h.m1.below hb, below_go h.bel hb⟩
theorem RowAt.drew {w0 W : World} {p : Pos} {v : Value} {l : List Mv} (h : RowAt w0 W p v l) : RowAt w0 W.drew p v l := h.below (pw_below_drewN (Below.refl _ _) 1)
structure OqAt (w0 W : World) (p : Pos) (v : Value) (l : List Mv) (q : Pos) (qb : Nat) : Prop where
  row : RowAt w0 W p v l
  qx : BoxP W qb q
theorem OqAt.below {w0 W W' : World} {p q : Pos} {v : Value} {l : List Mv} {qb : Nat} (h : OqAt w0 W p v l q qb) (hb : Below W.heap.size W W') : OqAt w0 W' p v l q qb := ⟨h.row.below hb, h.qx.below hb⟩
theorem OqAt.mk1 {w0 W : World} {p : Pos} {v : Value} {l : List Mv} (h : RowAt w0 W p v l) (q : Pos) : OqAt w0 (W.alloc (.cells #[.string q.cells, .int .i64 q.side, .int .i64 q.clock, .int .i64 q.full] 23)) p v l q W.heap.size :=
  ⟨h.below (below_alloc (Below.refl _ _) _), BoxP.new W q⟩
/-- A new position's box behind a call. -/
theorem zq_new (W W' : World) (hb : Below (W.alloc (.cells #[.string { data := #[] }, .int .i64 0, .int .i64 0, .int .i64 0] 23)).heap.size (W.alloc (.cells #[.string { data := #[] }, .int .i64 0, .int .i64 0, .int .i64 0] 23)) W') :
    W'.cell? ⟨W.heap.size, 0, none⟩ = some (.string { data := #[] }) ∧ W'.cell? ⟨W.heap.size, 1, none⟩ = some (.int .i64 0) ∧ W'.cell? ⟨W.heap.size, 2, none⟩ = some (.int .i64 0) ∧ W'.cell? ⟨W.heap.size, 3, none⟩ = some (.int .i64 0) ∧ (∀ k, W'.frozen? ⟨W.heap.size, k, none⟩ = false) ∧ Below W.heap.size W W' := by
  have hl : W.heap.size < (W.alloc (.cells #[.string { data := #[] }, .int .i64 0, .int .i64 0, .int .i64 0] 23)).heap.size := by simp
  exact ⟨(hb.cell (p := ⟨W.heap.size, 0, none⟩) hl).trans (by simp [World.cell?_alloc_at]), (hb.cell (p := ⟨W.heap.size, 1, none⟩) hl).trans (by simp [World.cell?_alloc_at]), (hb.cell (p := ⟨W.heap.size, 2, none⟩) hl).trans (by simp [World.cell?_alloc_at]), (hb.cell (p := ⟨W.heap.size, 3, none⟩) hl).trans (by simp [World.cell?_alloc_at]), fun k => (hb.frozen (p := ⟨W.heap.size, k, none⟩) hl).trans (World.frozen?_alloc_at _ _ _ k rfl), (below_alloc (Below.refl W.heap.size W) _).trans (hb.mono (by simp))⟩
theorem OqAt.mk2 {w0 W0 W : World} {p : Pos} {v : Value} {l : List Mv} (h : RowAt w0 W0 p v l) (hb : Below W0.heap.size W0 W) (z0 : W.cell? ⟨W0.heap.size, 0, none⟩ = some (.string { data := #[] })) (z1 : W.cell? ⟨W0.heap.size, 1, none⟩ = some (.int .i64 0)) (z2 : W.cell? ⟨W0.heap.size, 2, none⟩ = some (.int .i64 0)) (z3 : W.cell? ⟨W0.heap.size, 3, none⟩ = some (.int .i64 0)) (q : Pos) :
    OqAt w0 ((((W.setCell ⟨W0.heap.size, 0, none⟩ (.string q.cells)).setCell ⟨W0.heap.size, 1, none⟩ (.int .i64 q.side)).setCell ⟨W0.heap.size, 2, none⟩ (.int .i64 q.clock)).setCell ⟨W0.heap.size, 3, none⟩ (.int .i64 q.full)) p v l q W0.heap.size :=
  ⟨h.below (Below.setCell (p := ⟨W0.heap.size, 3, none⟩) (Below.setCell (p := ⟨W0.heap.size, 2, none⟩) (Below.setCell (p := ⟨W0.heap.size, 1, none⟩) (Below.setCell (p := ⟨W0.heap.size, 0, none⟩) hb (Nat.le_refl _) _) (Nat.le_refl _) _) (Nat.le_refl _) _) (Nat.le_refl _) _), ⟨by simp [go_sem, z0, z1, z2, z3], by simp [go_sem, z0, z1, z2, z3], by simp [go_sem, z0, z1, z2, z3], by simp [go_sem, z0, z1, z2, z3]⟩⟩
/-- What is behind a move that may be made. -/
theorem legal_make {p : Pos} {m : Mv} (hm : m ∈ legalL p) : ∃ mb : ByteArray, makeP p (mviOf m) = (⟨mb, 1 - p.side, if cel p.cells m.2 = 46 then min (p.clock + 1) 120 else 0, if p.side = 1 then min (p.full + 1) 9999 else p.full⟩, if cel p.cells m.2 = 46 then 0 else cel p.cells m.2, 0) ∧ safeR mb p.side = true ∧ cel p.cells m.2 ≠ 0 ∧ wellS (makeP p (mviOf m)).1 = 0 := by
  obtain ⟨hw, hg, hs⟩ := legal_mem.1 hm
  have hck := well_check hw
  have hgd := safe_is_good hck hs
  obtain ⟨_, h1, h2, _⟩ := gath_mem hg
  have hbd := (argOk_yes (checkP_board hck)).1
  have hat : atS p.cells (m.2 : Int) = cel p.cells m.2 := by unfold atS; rw [if_pos ⟨hbd, by omega, by omega⟩]; rfl
  refine ⟨movedB p.cells m.1 m.2, ?_, ?_, ?_, ?_⟩
  · rw [make_ok hw hs, apply_good hck hgd]
    simp only
    rw [hat]
    rfl
  · rw [safe_good hck hgd] at hs
    exact hs
  · have h : ∀ x ∈ letters, x ≠ 0 := by decide
    exact h _ (board_cell hbd h2)
  · rw [make_ok hw hs]
    unfold safeS at hs
    simp only [Bool.and_eq_true, beq_iff_eq] at hs
    exact hs.2
end Go.Proofs.YtgmlojocafepiaaGreatDoor.K

/- Walks: the reference's Apply; PseudoApplies. -/
namespace Go.Proofs.YtgmlojocafepiaaGreatDoor.K
open Go.RowKit Go.Lib Go.Proofs.YtgmlojocafepiaaGreatDoorW.PrintWords Go.Proofs.YtgmlojocafepiaaGreatDoor.Sp
set_option linter.unusedVariables false
set_option linter.unusedSimpArgs false
attribute [local go_sem] cel_get   -- for this text's walks alone
/-- The new position's box beside the others. -/
structure QbAt (w0 W : World) (p : Pos) (m : Mvi) (q : Pos) (qb : Nat) : Prop where
  ap : ApAt w0 W p m
  box : BoxP W qb q
  fz : ∀ k, W.frozen? ⟨qb, k, none⟩ = false
  lt : w0.heap.size + 2 < qb
theorem QbAt.mk1 {w0 W : World} {p : Pos} {m : Mvi} (h : ApAt w0 W p m) (q : Pos) : QbAt w0 (W.alloc (.cells #[.string q.cells, .int .i64 q.side, .int .i64 q.clock, .int .i64 q.full] 23)) p m q W.heap.size :=
  ⟨h.below (below_alloc (Below.refl _ _) _), BoxP.new W q, fun k => World.frozen?_alloc_at _ _ _ k rfl, h.lt⟩
theorem QbAt.mk2 {w0 W : World} {p : Pos} {m : Mvi} {qb : Nat} (h : ApAt w0 W p m) (hl : w0.heap.size + 2 < qb) (z0 : W.cell? ⟨qb, 0, none⟩ = some (.string { data := #[] })) (z1 : W.cell? ⟨qb, 1, none⟩ = some (.int .i64 0)) (z2 : W.cell? ⟨qb, 2, none⟩ = some (.int .i64 0)) (z3 : W.cell? ⟨qb, 3, none⟩ = some (.int .i64 0)) (zf : ∀ k, W.frozen? ⟨qb, k, none⟩ = false) (q : Pos) :
    QbAt w0 ((((W.setCell ⟨qb, 0, none⟩ (.string q.cells)).setCell ⟨qb, 1, none⟩ (.int .i64 q.side)).setCell ⟨qb, 2, none⟩ (.int .i64 q.clock)).setCell ⟨qb, 3, none⟩ (.int .i64 q.full)) p m q qb :=
  ⟨h.upto (n := qb) hl (Below.setCell (p := ⟨qb, 3, none⟩) (Below.setCell (p := ⟨qb, 2, none⟩) (Below.setCell (p := ⟨qb, 1, none⟩) (Below.setCell (p := ⟨qb, 0, none⟩) (Below.refl _ _) (Nat.le_refl _) _) (Nat.le_refl _) _) (Nat.le_refl _) _) (Nat.le_refl _) _), ⟨by simp [go_sem, z0, z1, z2, z3], by simp [go_sem, z0, z1, z2, z3], by simp [go_sem, z0, z1, z2, z3], by simp [go_sem, z0, z1, z2, z3]⟩, fun k => by simp [go_sem, zf], hl⟩
/-- A new position's box behind a call. -/
theorem qz_new (W W' : World) (hb : Below (W.alloc (.cells #[.string { data := #[] }, .int .i64 0, .int .i64 0, .int .i64 0] 23)).heap.size (W.alloc (.cells #[.string { data := #[] }, .int .i64 0, .int .i64 0, .int .i64 0] 23)) W') :
    W'.cell? ⟨W.heap.size, 0, none⟩ = some (.string { data := #[] }) ∧ W'.cell? ⟨W.heap.size, 1, none⟩ = some (.int .i64 0) ∧ W'.cell? ⟨W.heap.size, 2, none⟩ = some (.int .i64 0) ∧ W'.cell? ⟨W.heap.size, 3, none⟩ = some (.int .i64 0) ∧ ∀ k, W'.frozen? ⟨W.heap.size, k, none⟩ = false := by
  have hl : W.heap.size < (W.alloc (.cells #[.string { data := #[] }, .int .i64 0, .int .i64 0, .int .i64 0] 23)).heap.size := by simp
  exact ⟨(hb.cell (p := ⟨W.heap.size, 0, none⟩) hl).trans (by simp [World.cell?_alloc_at]), (hb.cell (p := ⟨W.heap.size, 1, none⟩) hl).trans (by simp [World.cell?_alloc_at]), (hb.cell (p := ⟨W.heap.size, 2, none⟩) hl).trans (by simp [World.cell?_alloc_at]), (hb.cell (p := ⟨W.heap.size, 3, none⟩) hl).trans (by simp [World.cell?_alloc_at]), fun k => (hb.frozen (p := ⟨W.heap.size, k, none⟩) hl).trans (World.frozen?_alloc_at _ _ _ k rfl)⟩
set_option maxRecDepth 100000 in
set_option maxHeartbeats 4000000 in
theorem rapply_ok (p : Pos) (m : Mvi) (w : World) (hck : checkP p = 0) (hg : okR p m) : Calls Tryz.prog 16 #[posV p, mviV m] w (ApplyIs w p m) := by
  obtain ⟨hbd, hsd0, q1, q2, q3, q4⟩ := argOk_yes (checkP_board hck)
  have hsz := board_size hbd
  have HCK := Aside0.mk (fun W => rcheck_c p (by rw [hsz]; unfold maxLen; omega) W)
  rw [hck] at HCK
  have hu := Tryz.underlying23
  have hu2 := Tryz.underlying32
  have hgt := (ok_good hck).2 hg
  obtain ⟨m1, m2⟩ := m
  obtain ⟨⟨f0, f1⟩, ⟨g0, g1⟩, h1, h2, h3⟩ := hg
  simp only at f0 f1 g0 g1 h1 h2 h3
  obtain ⟨a, rfl⟩ : ∃ a : Nat, m1 = a := ⟨m1.toNat, by omega⟩
  obtain ⟨b, rfl⟩ : ∃ b : Nat, m2 = b := ⟨m2.toNat, by omega⟩
  simp only [Int.toNat_natCast] at h1 h2 h3
  have hatb : atS p.cells (b : Int) = cel p.cells b := by unfold atS; rw [if_pos ⟨hbd, g0, g1⟩]; rfl
  have HR := Aside0.mk (show applyP p ⟨a, b⟩ = (⟨movedB p.cells a b, 1 - p.side, if cel p.cells b = 46 then min (p.clock + 1) 120 else 0, if p.side = 1 then min (p.full + 1) 9999 else p.full⟩, if cel p.cells b = 46 then 0 else cel p.cells b, 0) by
    unfold applyP
    rw [if_neg (by simpa using hck), if_neg (by rw [hgt]; simp)]
    simp only
    rw [hatb]
    rfl)
  have HMV := Aside0.mk (fun W => rmoved_c p.cells hsz a b (by omega) (by omega) W)
  have HS1 := Aside0.mk (fun W => rside_c (cel p.cells a) (cel_lt _ _) W)
  have HK1 := Aside0.mk (fun W => rkind_c (cel p.cells b) (cel_lt _ _) W)
  have HF1 := Aside0.mk (fun W => rfast_c p.cells hbd a b (by omega) (by omega) W)
  rw [h1] at HS1
  rw [h2] at HF1
  have k1 : decide ((a : Int) < 0) = false := decide_eq_false (by omega)
  have k2 : decide (89 < (a : Int)) = false := decide_eq_false (by omega)
  have k3 : decide ((b : Int) < 0) = false := decide_eq_false (by omega)
  have k4 : decide (89 < (b : Int)) = false := decide_eq_false (by omega)
  have ha : (a : Int) < (p.cells.size : Int) := by rw [hsz]; omega
  have hb1 : (b : Int) < (p.cells.size : Int) := by rw [hsz]; omega
  have hk75 : ((kindN (cel p.cells b) : Int) == 75) = false := by rw [beq_eq_false_iff_ne]; omega
  have hs0 : 0 ≤ p.side := by omega
  have hs1 : p.side ≤ 1 := by omega
  have HY := Aside0.mk (bne46 (cel p.cells b))
  have hyl := cel_lt p.cells b
  generalize kindN (cel p.cells b) = kd at *
  generalize movedB p.cells a b = mb at *
  generalize hyy : cel p.cells b = y at *
  have e1 : wrap64 (1 - p.side) = 1 - p.side := by unfold wrap64; omega
  have e2 : IntKind.i64.wrap (1 - p.side) = 1 - p.side := by rw [IntKind.wrap_i64]; omega
  have e3 : wrap64 (p.clock + 1) = p.clock + 1 := by unfold wrap64; omega
  have e4 : IntKind.i64.wrap (p.clock + 1) = p.clock + 1 := by rw [IntKind.wrap_i64]; omega
  have hc1 : p.clock ≤ 120 := q2
  clear hck hgt h1 h2 h3 hatb hbd hsz hsd0 f0 f1 g0 g1
  go_enter Tryz.func16, Tryz.ntmps16
  go_wp2_with fail
  refine (HCK.out _).mono ?_
  rintro e w1 ⟨rfl, hb⟩
  have HA := Aside0.mk ((apat_new w p ⟨(a : Int), (b : Int)⟩).below hb)
  clear hb
  have d0 := HA.out.d0
  have d1 := HA.out.d1
  have c0 := HA.out.c0
  have c1 := HA.out.c1
  go_wp2_with fail
  go_quiet (first | (go_at_call 57; exact Calls.quiet_of_same (HS1.out _)) | (go_at_call 58; exact Calls.quiet_of_same (HF1.out _)) | (go_at_call 59; exact Calls.quiet_of_same (HK1.out _)))
  have HA1 := Aside0.mk (HA.out.below (pw_below_drewN (Below.refl _ _) nq))
  clear HA d0 d1 c0 c1 k1 k2 k3 k4 hk75
  generalize w1.drewN nq = w5 at *
  have c0 := HA1.out.c0
  have c1 := HA1.out.c1
  have c2 := HA1.out.c2
  have c3 := HA1.out.c3
  have d0 := HA1.out.d0
  have d1 := HA1.out.d1
  go_upto_region 6 with fail
  have HA2 := Aside0.mk HA1.out.drew
  clear HA1
  go_cut [8] from 65 to 78 (fun s8 wx => ∃ qb : Nat, s8 = .pointer (some ⟨qb, 0, none⟩) ∧ Aside0 (QbAt w wx p ⟨(a : Int), (b : Int)⟩ ⟨mb, 1 - p.side, min (p.clock + 1) 120, p.full⟩ qb))
  case first =>
    go_region_held3 (fun W => W.cell? ⟨w.heap.size, 0, none⟩ = some (.string p.cells) ∧ W.cell? ⟨w.heap.size, 1, none⟩ = some (.int .i64 p.side) ∧ W.cell? ⟨w.heap.size, 2, none⟩ = some (.int .i64 p.clock) ∧ W.cell? ⟨w.heap.size, 3, none⟩ = some (.int .i64 p.full) ∧ W.cell? ⟨w.heap.size + 1, 0, none⟩ = some (.int .i64 (a : Int)) ∧ W.cell? ⟨w.heap.size + 1, 1, none⟩ = some (.int .i64 (b : Int))) (go_keep)
        (first
          | (go_at_call 60; (with_reducible refine (HMV.out w5.drew).mono ?_); rintro e w6 ⟨rfl, hb⟩; have HA3 := Aside0.mk (HA2.out.below hb); clear HA2 hb c0 c1 c2 c3 d0 d1; have c0 := HA3.out.c0; have c1 := HA3.out.c1; have c2 := HA3.out.c2; have c3 := HA3.out.c3; have d0 := HA3.out.d0; have d1 := HA3.out.d1; have n0 : w6.heap.size ≠ w.heap.size := World.new_ne w6 _ c0; have n1 : w6.heap.size ≠ w.heap.size + 1 := World.new_ne w6 _ d0)
          | (go_at_call 60; (with_reducible refine (HMV.out _).mono ?_); rintro e w6 ⟨rfl, hb⟩; have HZ := Aside0.mk (qz_new w5.drew w6 hb); have HL5 := Aside0.mk (show w.heap.size + 2 < w5.heap.size from HA2.out.lt); have HA3 := Aside0.mk ((HA2.out.below (below_alloc (Below.refl _ _) _)).below hb); have n0 : w5.heap.size ≠ w.heap.size := World.new_ne w5 _ c0; have n1 : w5.heap.size ≠ w.heap.size + 1 := World.new_ne w5 _ d0; clear HA2 hb c0 c1 c2 c3 d0 d1; have c0 := HA3.out.c0; have c1 := HA3.out.c1; have c2 := HA3.out.c2; have c3 := HA3.out.c3; have d0 := HA3.out.d0; have d1 := HA3.out.d1; have z0 : w6.cell? ⟨w5.heap.size, 0, none⟩ = some (.string { data := #[] }) := HZ.out.1; have z1 : w6.cell? ⟨w5.heap.size, 1, none⟩ = some (.int .i64 0) := HZ.out.2.1; have z2 : w6.cell? ⟨w5.heap.size, 2, none⟩ = some (.int .i64 0) := HZ.out.2.2.1; have z3 : w6.cell? ⟨w5.heap.size, 3, none⟩ = some (.int .i64 0) := HZ.out.2.2.2.1; have zf : ∀ k, w6.frozen? ⟨w5.heap.size, k, none⟩ = false := HZ.out.2.2.2.2))
    all_goals
      go_wp2_with fail
      go_meet
      first
      | exact ⟨_, rfl, ⟨QbAt.mk1 HA3.out ⟨mb, 1 - p.side, min (p.clock + 1) 120, p.full⟩⟩⟩
      | exact ⟨_, rfl, ⟨QbAt.mk2 HA3.out HL5.out z0 z1 z2 z3 zf ⟨mb, 1 - p.side, min (p.clock + 1) 120, p.full⟩⟩⟩
  case rest =>
  obtain ⟨qb, rfl, HQ⟩ := hcut
  clear c0 c1 c2 c3 d0 d1 HA2 HCK HS1 HF1 HK1 HMV e1 e2 e3 e4 hu2
  obtain ⟨HAP, ⟨b0, b1, b2, b3⟩, fq, hqb⟩ := HQ.out
  have HAP := Aside0.mk HAP
  have m1 : qb ≠ w.heap.size := by omega
  have m2 : qb ≠ w.heap.size + 1 := by omega
  have m3 : qb ≠ w.heap.size + 1 + 1 := by omega
  have HQB := Aside0.mk hqb
  have c0 := HAP.out.c0
  have c1 := HAP.out.c1
  have d1 := HAP.out.d1
  have r0 := HAP.out.r0
  have r1 := HAP.out.r1
  have r2 := HAP.out.r2
  have r3 := HAP.out.r3
  have fr := HAP.out.fr
  have hy := HY.out
  clear HQ hqb
  cases hz : (y != 46)
  all_goals
    rw [hz] at hy
    have HY46 := Aside0.mk hz
    clear hz
    cases hs : (p.side == 1)
    all_goals
      have HS1 := Aside0.mk hs
      go_wp2_with fail
      refine bodyPost_ret (by simp [results, Tryz.results16, go_sem, r0, r1, r2, r3, m1, m2, m3, Ne.symm m3]; try rfl) rfl ?_
      have hle := HQB.out
      refine ⟨?_, by (repeat' (first | (with_reducible exact Below.refl _ _) | (with_reducible refine pw_below_drewN ?_ _) | (with_reducible refine below_alloc ?_ _) | (with_reducible refine Below.drew ?_) | (with_reducible refine Below.setCell ?_ ?_ _) | (simp; done))) <;> first | exact HAP.out.bel | (simp; done) | (simp; omega)⟩
      rw [HR.out]
      have y1 := HY46.out
      have s1 := HS1.out
      simp only [bne_iff_ne, ne_eq, bne_eq_false_iff_eq, beq_iff_eq, beq_eq_false_iff_ne] at y1 s1
      simp [y1, s1]
theorem rapply_c (p : Pos) (hmx : p.cells.size ≤ maxLen) (m : Mvi) (w : World) : Calls Tryz.prog 16 #[posV p, mviV m] w (ApplyIs w p m) := by
  by_cases h1 : checkP p = 0
  · by_cases h2 : okR p m
    · exact rapply_ok p m w h1 h2
    · exact rapply_bad p m w h1 h2
  · exact rapply_no p hmx m w h1
end Go.Proofs.YtgmlojocafepiaaGreatDoor.K

/- Walk: the reference's Make (layer 8). -/
namespace Go.Proofs.YtgmlojocafepiaaGreatDoor.K
open Go.RowKit Go.Lib Go.Proofs.YtgmlojocafepiaaGreatDoorW.PrintWords Go.Proofs.YtgmlojocafepiaaGreatDoor.Sp
set_option linter.unusedVariables false
set_option linter.unusedSimpArgs false
theorem apply_size {p : Pos} {m : Mvi} (hck : checkP p = 0) : (applyP p m).1.cells.size ≤ maxLen := by
  cases hg : goodM p m
  · rw [apply_ill hck hg]; show (ByteArray.empty).size ≤ maxLen; unfold maxLen; decide
  · rw [apply_good hck hg]
    simp only
    rw [moved_size, board_size (argOk_yes (checkP_board hck)).1]
    unfold maxLen; omega
theorem make_ref {p : Pos} {m : Mvi} (hw : wellS p = 0) : makeP p m = if (applyP p m).2.2 ≠ 0 then (zeroP, 0, 7) else if safeR (applyP p m).1.cells p.side = false then (zeroP, 0, 7) else applyP p m := by
  have hck := well_check hw
  unfold makeP
  rw [if_neg (by simpa using hw)]
  cases hg : goodM p m
  · rw [safe_ill hck hg, apply_ill hck hg]; rfl
  · rw [safe_good hck hg, apply_good hck hg]
    simp
set_option maxRecDepth 100000 in
set_option maxHeartbeats 4000000 in
theorem rmake8_c (p : Pos) (hmx : p.cells.size ≤ maxLen) (m : Mvi) (w : World) : Calls Tryz.prog 67 #[posV p, mviV m] w (MakeIs w p m) := by
  have HW := Aside0.mk (fun W => rwell_c p hmx W)
  have HAP := Aside0.mk (fun W => rapply_c p hmx m W)
  have hu := Tryz.underlying23
  have hu2 := Tryz.underlying32
  have HA := Aside0.mk (apat_new w p m)
  unfold ApplyIs at HAP
  cases h0 : (wellS p != 0)
  case true =>
    have HR := Aside0.mk (show makeP p m = (zeroP, 0, wellS p) by unfold makeP; rw [if_pos (by simpa using h0)])
    clear HAP hmx
    generalize wellS p = r at *
    go_enter Tryz.func67, Tryz.ntmps67
    go_wp2_with fail
    refine (HW.out _).mono ?_
    rintro e w1 ⟨rfl, hb⟩
    have HB := Aside0.mk (HA.out.below hb)
    clear hb HA
    have fr := HB.out.fr
    have r0 := HB.out.r0
    have r1 := HB.out.r1
    have r2 := HB.out.r2
    have r3 := HB.out.r3
    go_wp2_with fail
    refine bodyPost_ret (by simp [results, Tryz.results67, go_sem, r0, r1, r2, r3]; try rfl) rfl ?_
    exact ⟨by rw [HR.out]; rfl, by (repeat' (first | (with_reducible exact Below.refl _ _) | (with_reducible refine pw_below_drewN ?_ _) | (with_reducible refine below_alloc ?_ _) | (with_reducible refine Below.drew ?_) | (with_reducible refine Below.setCell ?_ ?_ _) | (simp; done))) <;> first | exact HB.out.bel | (simp; done) | (simp; omega)⟩
  case false =>
    have hw : wellS p = 0 := by simpa using h0
    have HR := Aside0.mk (make_ref (p := p) (m := m) hw)
    have hqs := apply_size (m := m) (well_check hw)
    rw [hw] at HW
    generalize applyP p m = r at *
    obtain ⟨q, c, er⟩ := r
    have HSF := Aside0.mk (fun W => rsafe_c q.cells hqs p.side W)
    clear h0 hw hmx hqs
    cases h1 : (er != 0)
    case true =>
      have HR1 := Aside0.mk (show makeP p m = (zeroP, 0, 7) by rw [HR.out, if_pos (by simpa using h1)])
      clear HR HSF
      go_enter Tryz.func67, Tryz.ntmps67
      go_wp2_with fail
      refine (HW.out _).mono ?_
      rintro e w1 ⟨rfl, hb⟩
      have HB := Aside0.mk (HA.out.below hb)
      clear hb HA
      have c0 := HB.out.c0
      have c1 := HB.out.c1
      have c2 := HB.out.c2
      have c3 := HB.out.c3
      have d0 := HB.out.d0
      have d1 := HB.out.d1
      go_wp2_with fail
      refine (HAP.out _).mono ?_
      rintro e w2 ⟨rfl, hb⟩
      have HC := Aside0.mk ((HB.out.below hb).below (below_alloc (Below.refl _ _) (.cells #[.string q.cells, .int .i64 q.side, .int .i64 q.clock, .int .i64 q.full] 23)))
      clear hb HB c0 c1 c2 c3 d0 d1
      go_upto_region 5 with fail
      generalize w2.heap.size = qb at *
      generalize (w2.alloc (.cells #[.string q.cells, .int .i64 q.side, .int .i64 q.clock, .int .i64 q.full] 23)) = w3 at *
      have fr := HC.out.fr
      have r0 := HC.out.r0
      have r1 := HC.out.r1
      have r2 := HC.out.r2
      have r3 := HC.out.r3
      go_wp2_with fail
      refine bodyPost_ret (by simp [results, Tryz.results67, go_sem, r0, r1, r2, r3]; try rfl) rfl ?_
      exact ⟨by rw [HR1.out]; rfl, by (repeat' (first | (with_reducible exact Below.refl _ _) | (with_reducible refine pw_below_drewN ?_ _) | (with_reducible refine below_alloc ?_ _) | (with_reducible refine Below.drew ?_) | (with_reducible refine Below.setCell ?_ ?_ _) | (simp; done))) <;> first | exact HC.out.bel | (simp; done) | (simp; omega)⟩
    case false =>
      have he : er = 0 := by simpa using h1
      subst he
      clear h1
      cases hs : safeR q.cells p.side
      case false =>
        have HR1 := Aside0.mk (show makeP p m = (zeroP, 0, 7) by rw [HR.out, if_neg (by simp)]; simp only [hs]; rfl)
        rw [hs] at HSF
        clear HR hs
        go_enter Tryz.func67, Tryz.ntmps67
        go_wp2_with fail
        refine (HW.out _).mono ?_
        rintro e w1 ⟨rfl, hb⟩
        have HB := Aside0.mk (HA.out.below hb)
        clear hb HA
        have c0 := HB.out.c0
        have c1 := HB.out.c1
        have c2 := HB.out.c2
        have c3 := HB.out.c3
        have d0 := HB.out.d0
        have d1 := HB.out.d1
        go_wp2_with fail
        refine (HAP.out _).mono ?_
        rintro e w2 ⟨rfl, hb⟩
        have HC := Aside0.mk ((HB.out.below hb).below (below_alloc (Below.refl _ _) (.cells #[.string q.cells, .int .i64 q.side, .int .i64 q.clock, .int .i64 q.full] 23)))
        have HQ := Aside0.mk (BoxP.new w2 q)
        clear hb HB c0 c1 c2 c3 d0 d1
        go_upto_region 5 with fail
        generalize w2.heap.size = qb at *
        generalize (w2.alloc (.cells #[.string q.cells, .int .i64 q.side, .int .i64 q.clock, .int .i64 q.full] 23)) = w3 at *
        have c1 := HC.out.c1
        obtain ⟨q0, q1, q2, q3⟩ := HQ.out
        go_wp2_with fail
        refine (HSF.out _).mono ?_
        rintro e w4 ⟨rfl, hb⟩
        have HD := Aside0.mk (HC.out.below hb)
        clear hb HC c1 q0 q1 q2 q3
        have fr := HD.out.fr
        have r0 := HD.out.r0
        have r1 := HD.out.r1
        have r2 := HD.out.r2
        have r3 := HD.out.r3
        go_wp2_with fail
        refine bodyPost_ret (by simp [results, Tryz.results67, go_sem, r0, r1, r2, r3]; try rfl) rfl ?_
        exact ⟨by rw [HR1.out]; rfl, by (repeat' (first | (with_reducible exact Below.refl _ _) | (with_reducible refine pw_below_drewN ?_ _) | (with_reducible refine below_alloc ?_ _) | (with_reducible refine Below.drew ?_) | (with_reducible refine Below.setCell ?_ ?_ _) | (simp; done))) <;> first | exact HD.out.bel | (simp; done) | (simp; omega)⟩
      case true =>
        have HR1 := Aside0.mk (show makeP p m = (q, c, 0) by rw [HR.out, if_neg (by simp)]; simp only [hs]; rfl)
        rw [hs] at HSF
        clear HR hs
        go_enter Tryz.func67, Tryz.ntmps67
        go_wp2_with fail
        refine (HW.out _).mono ?_
        rintro e w1 ⟨rfl, hb⟩
        have HB := Aside0.mk (HA.out.below hb)
        clear hb HA
        have c0 := HB.out.c0
        have c1 := HB.out.c1
        have c2 := HB.out.c2
        have c3 := HB.out.c3
        have d0 := HB.out.d0
        have d1 := HB.out.d1
        go_wp2_with fail
        refine (HAP.out _).mono ?_
        rintro e w2 ⟨rfl, hb⟩
        have HC := Aside0.mk ((HB.out.below hb).below (below_alloc (Below.refl _ _) (.cells #[.string q.cells, .int .i64 q.side, .int .i64 q.clock, .int .i64 q.full] 23)))
        have HQ := Aside0.mk (BoxP.new w2 q)
        have hn2 : w2.heap.size ≠ w.heap.size + 1 + 1 := World.new_ne w2 _ (HB.out.below hb).r0
        clear hb HB c0 c1 c2 c3 d0 d1
        go_upto_region 5 with fail
        generalize w2.heap.size = qb at *
        generalize (w2.alloc (.cells #[.string q.cells, .int .i64 q.side, .int .i64 q.clock, .int .i64 q.full] 23)) = w3 at *
        have c1 := HC.out.c1
        obtain ⟨q0, q1, q2, q3⟩ := HQ.out
        go_wp2_with fail
        refine (HSF.out _).mono ?_
        rintro e w4 ⟨rfl, hb⟩
        have HD := Aside0.mk (HC.out.below hb)
        clear q0 q1 q2 q3
        obtain ⟨q0, q1, q2, q3⟩ := HQ.out.below hb
        clear hb HC c1
        have fr := HD.out.fr
        have r0 := HD.out.r0
        have r1 := HD.out.r1
        have r2 := HD.out.r2
        have r3 := HD.out.r3
        go_wp2_with fail
        refine bodyPost_ret (by simp [results, Tryz.results67, go_sem, r0, r1, r2, r3]; try rfl) rfl ?_
        exact ⟨by rw [HR1.out], by (repeat' (first | (with_reducible exact Below.refl _ _) | (with_reducible refine pw_below_drewN ?_ _) | (with_reducible refine below_alloc ?_ _) | (with_reducible refine Below.drew ?_) | (with_reducible refine Below.setCell ?_ ?_ _) | (simp; done))) <;> first | exact HD.out.bel | (simp; done) | (simp; omega)⟩
end Go.Proofs.YtgmlojocafepiaaGreatDoor.K

/- Walk: the reference's Same. -/
namespace Go.Proofs.YtgmlojocafepiaaGreatDoor.K
open Go.RowKit Go.Lib Go.Proofs.YtgmlojocafepiaaGreatDoorW.PrintWords Go.Proofs.YtgmlojocafepiaaGreatDoor.Sp
set_option linter.unusedVariables false
set_option linter.unusedSimpArgs false
/-- Two rows of the same moves are told to be the same. -/
theorem rsame_c (l : List Mv) (hl : l.length ≤ 8100) (B1 B2 : Nat) (v1 v2 : Value) (w : World) (h1 : MvAt w B1 v1 l) (h2 : MvAt w B2 v2 l) : Calls Tryz.prog 30 #[v1, v2] w fun e w' => e = .returned (.bool true) ∧ Below w.heap.size w w' := by
  obtain ⟨A1, cap1, rfl⟩ := h1.form
  obtain ⟨A2, cap2, rfl⟩ := h2.form
  have HX := Aside0.mk (And.intro h1 h2)
  have HLL := Aside0.mk hl
  have hu2 := Tryz.underlying32
  clear h1 h2 hl
  go_enter Tryz.func30, Tryz.ntmps30
  go_wp2_with fail
  go_loopg [5] l.length (fun gg s5 wr => ∃ i : Nat, s5 = .int .i64 (i : Int) ∧ i + gg = l.length ∧ Aside0 (MvAt wr B1 (.slice A1 l.length cap1) l ∧ MvAt wr B2 (.slice A2 l.length cap2) l) ∧ Aside0 (Below w.heap.size w wr))
  case atStart => exact ⟨0, rfl, by omega, HX, ⟨Below.refl _ _⟩⟩
  case round =>
    clear HX
    obtain ⟨i, rfl, hi, HX, HB⟩ := hrel
    cases gk with
    | zero =>
      have hn : ¬ ((i : Int) < (l.length : Int)) := by omega
      clear hi
      go_wp2_with fail
      go_ret
      exact ⟨rfl, HB.out⟩
    | succ g =>
      have hn : (i : Int) < (l.length : Int) := by omega
      have hil : i < l.length := by omega
      have hib : (i : Int) ≤ 8100 := by have := HLL.out; omega
      have HI := Aside0.mk (show i + 1 + g = l.length by omega)
      obtain ⟨g1, cap1', hA1, _, hg1, hx1⟩ := HX.out.1.at (fun h => by rw [h] at hil; simp at hil)
      simp only [Value.slice.injEq, true_and] at hA1
      obtain ⟨rfl, rfl⟩ := hA1
      obtain ⟨g2, cap2', hA2, _, hg2, hx2⟩ := HX.out.2.at (fun h => by rw [h] at hil; simp at hil)
      simp only [Value.slice.injEq, true_and] at hA2
      obtain ⟨rfl, rfl⟩ := hA2
      obtain ⟨x0, x1⟩ := hx1 i hil
      obtain ⟨y0, y1⟩ := hx2 i hil
      clear hx1 hx2 hi
      generalize l[i] = m at *
      obtain ⟨ma, mb⟩ := m
      simp only at x0 x1 y0 y1
      clear hil
      go_wp2_with fail
      go_quiet (fail)
      go_wp2_with fail
      go_roundg g
      case measure => omega
      case rel => exact ⟨i + 1, by go_num, by have := HI.out; omega, ⟨HX.out.1.below (pw_below_drewN (Below.refl _ _) _), HX.out.2.below (pw_below_drewN (Below.refl _ _) _)⟩, ⟨pw_below_drewN HB.out _⟩⟩
end Go.Proofs.YtgmlojocafepiaaGreatDoor.K

/- Walks: the reference's Moves. -/
namespace Go.Proofs.YtgmlojocafepiaaGreatDoor.K
open Go.RowKit Go.Lib Go.Proofs.YtgmlojocafepiaaGreatDoorW.PrintWords Go.Proofs.YtgmlojocafepiaaGreatDoor.Sp
set_option linter.unusedVariables false
set_option linter.unusedSimpArgs false
attribute [local go_sem] cel_get   -- for this text's walks alone
set_option maxRecDepth 100000 in
set_option maxHeartbeats 2000000 in
theorem rmoves_c (p : Pos) (hmx : p.cells.size ≤ maxLen) (w : World) : Calls Tryz.prog 15 #[posV p] w fun e w' => ∃ v, e = .returned v ∧ OwnM w' w.heap.size v (gathP p (fun _ => true)) ∧ Below w.heap.size w w' := by
  have HCK := Aside0.mk (fun W => rcheck_c p hmx W)
  have hu := Tryz.underlying23
  have HB0 := Aside0.mk (BoxP.new w p)
  have HW0 := Aside0.mk (below_new (Below.refl w.heap.size w) (.cells #[.string p.cells, .int .i64 p.side, .int .i64 p.clock, .int .i64 p.full] 23))
  by_cases hck : checkP p = 0
  case neg =>
    rw [show gathP p (fun _ => true) = [] by unfold gathP; rw [if_neg hck]]
    have h2 : (checkP p != 0) = true := by simpa using hck
    clear hck hmx
    generalize checkP p = ck at HCK h2
    go_enter Tryz.func15, Tryz.ntmps15
    go_wp2_with (go_at_call 55; refine (HCK.out _).mono ?_; rintro e w1 ⟨rfl, hb⟩; have HW1 := Aside0.mk (below_go HW0.out hb); clear hb)
    go_ret
    exact ⟨_, rfl, own_nil _ _ _ _, HW1.out⟩
  have hbd := (argOk_yes (checkP_board hck)).1
  rw [show gathP p (fun _ => true) = gathM p.cells p.side (fun _ => true) 90 by unfold gathP; rw [if_pos hck]]
  have HOF := Aside0.mk (fun W => rof_moves p.cells hbd p.side W)
  generalize gathM p.cells p.side (fun _ => true) 90 = l at *
  rw [hck] at HCK
  clear hck hmx hbd
  go_enter Tryz.func15, Tryz.ntmps15
  go_wp2_with fail
  refine (HCK.out _).mono ?_
  rintro e w1 ⟨rfl, hb⟩
  have HB1 := Aside0.mk (HB0.out.below hb)
  have HW1 := Aside0.mk (below_go HW0.out hb)
  clear hb HB0 HW0
  obtain ⟨e0, e1, e2, e3⟩ := HB1.out
  go_wp2_with fail
  refine (HOF.out _).mono ?_
  rintro e w2 ⟨v, rfl, h2, hb⟩
  have HR := Aside0.mk (And.intro (h2.lower HW1.out.size) (below_go HW1.out hb))
  clear h2 hb HB1 HW1 e0 e1 e2 e3
  go_wp2_with fail
  go_ret
  exact ⟨_, rfl, HR.out.1, HR.out.2⟩
end Go.Proofs.YtgmlojocafepiaaGreatDoor.K

/- Has, of any move; LegalRight: the walk. -/
namespace Go.Proofs.YtgmlojocafepiaaGreatDoor.K
open Go.RowKit Go.Lib Go.Proofs.YtgmlojocafepiaaGreatDoorW.PrintWords Go.Proofs.YtgmlojocafepiaaGreatDoor.Sp
set_option linter.unusedVariables false
set_option linter.unusedSimpArgs false
attribute [local go_sem] cel_get   -- for this text's walks alone
set_option maxRecDepth 100000 in
set_option maxHeartbeats 2000000 in
theorem hasm_c (l : List Mv) (m : Mv) (hl : l.length ≤ 8100) (B : Nat) (v : Value) (w : World) (h : MvAt w B v l) :
    Calls Tryz.prog 18 #[v, mvV m] w fun e w' => e = .returned (.bool (decide (m ∈ l))) ∧ Below w.heap.size w w' := by
  have hu := Tryz.underlying32
  obtain ⟨A, cap, rfl⟩ := h.form
  have HX := Aside0.mk h
  have HLL := Aside0.mk hl
  obtain ⟨ma, mb⟩ := m
  clear h hl
  go_enter Tryz.func18, Tryz.ntmps18
  go_wp2_with fail
  have b0 : (w.alloc (.cells #[.int .i64 (ma : Int), .int .i64 (mb : Int)] 32)).cell? ⟨w.heap.size, 0, none⟩ = some (.int .i64 (ma : Int)) := by simp [World.cell?_alloc_at]
  have b1 : (w.alloc (.cells #[.int .i64 (ma : Int), .int .i64 (mb : Int)] 32)).cell? ⟨w.heap.size, 1, none⟩ = some (.int .i64 (mb : Int)) := by simp [World.cell?_alloc_at]
  have HX1 := Aside0.mk (HX.out.below (below_alloc (Below.refl _ _) (.cells #[.int .i64 (ma : Int), .int .i64 (mb : Int)] 32)))
  have HW := Aside0.mk (below_alloc (Below.refl w.heap.size w) (.cells #[.int .i64 (ma : Int), .int .i64 (mb : Int)] 32))
  have HB := Aside0.mk (And.intro b0 b1)
  clear b0 b1 HX
  generalize w.alloc (.cells #[.int .i64 (ma : Int), .int .i64 (mb : Int)] 32) = W1 at *
  go_loopg [5] l.length (fun gg s5 wr => ∃ i : Nat, s5 = .int .i64 i ∧ i + gg = l.length ∧ Aside0 (MvAt wr B (.slice A l.length cap) l) ∧ Aside0 (wr.cell? ⟨w.heap.size, 0, none⟩ = some (.int .i64 (ma : Int)) ∧ wr.cell? ⟨w.heap.size, 1, none⟩ = some (.int .i64 (mb : Int))) ∧ Aside0 (Below w.heap.size w wr) ∧ Aside0 (∀ j (hj : j < l.length), j < i → l[j] ≠ (ma, mb)))
  case atStart => exact ⟨0, rfl, by omega, HX1, HB, HW, ⟨fun j hj h => by omega⟩⟩
  case round =>
    clear HX1 HB HW
    obtain ⟨i, rfl, hi, HX, HB, HW, HN⟩ := hrel
    cases gk with
    | zero =>
      have hn : ¬ ((i : Int) < (l.length : Int)) := by omega
      have HI := Aside0.mk (show i = l.length by omega)
      clear hi
      go_wp2_with fail
      go_ret
      refine ⟨ret_bool ?_, HW.out⟩
      symm
      refine decide_eq_false fun hm => ?_
      obtain ⟨j, hj, he⟩ := List.mem_iff_getElem.1 hm
      exact HN.out j hj (by have := HI.out; omega) he
    | succ g =>
      have hn : (i : Int) < (l.length : Int) := by omega
      have hil : i < l.length := by omega
      have hib : (i : Int) ≤ 8100 := by have := HLL.out; omega
      have HI := Aside0.mk (show i + 1 + g = l.length by omega)
      obtain ⟨g1, cap1', hA1, _, hg1, hx1⟩ := HX.out.at (fun h => by rw [h] at hil; simp at hil)
      simp only [Value.slice.injEq, true_and] at hA1
      obtain ⟨rfl, rfl⟩ := hA1
      obtain ⟨x0, x1⟩ := hx1 i hil
      have HMM := Aside0.mk (show l[i] ∈ l from List.getElem_mem hil)
      have HNN := Aside0.mk (fun (hne : l[i] ≠ (ma, mb)) j (hj : j < l.length) (h : j < i + 1) => show l[j] ≠ (ma, mb) by
        by_cases h2 : j = i
        · subst h2; exact hne
        · exact HN.out j hj (by omega))
      clear hx1 hi
      generalize l[i] = m at *
      obtain ⟨la, lb⟩ := m
      simp only at x0 x1
      obtain ⟨y0, y1⟩ := HB.out
      have q1 := eqK la ma
      have q2 := eqK lb mb
      clear hil
      cases h1 : (la == ma)
      all_goals cases h2 : (lb == mb)
      all_goals
        rw [h1] at q1
        rw [h2] at q2
        have H1 := Aside0.mk (And.intro h1 h2)
        clear h1 h2
        go_wp2_with fail
        go_quiet (fail)
        go_wp2_with fail
        first
        | (go_ret
           refine ⟨ret_bool ?_, pw_below_drewN HW.out _⟩
           symm
           have e1 := beq_iff_eq.1 H1.out.1
           have e2 := beq_iff_eq.1 H1.out.2
           subst e1 e2
           exact decide_eq_true HMM.out)
        | (go_roundg g
           case measure => omega
           case rel => exact ⟨i + 1, by go_num, by have := HI.out; omega, ⟨HX.out.below (pw_below_drewN (Below.refl _ _) _)⟩, ⟨HB.out⟩, ⟨pw_below_drewN HW.out _⟩, ⟨HNN.out (fun he => by have := H1.out; simp only [Prod.mk.injEq] at he; simp_all)⟩⟩)
/-- Two rows beside a position's box, and a position that is made. -/
structure O2At (w0 W : World) (p : Pos) (v1 v2 : Value) (l k : List Mv) (q : Pos) (qb : Nat) : Prop where
  two : TwoAt w0 W p v1 v2 l k
  qx : BoxP W qb q
theorem O2At.below {w0 W W' : World} {p q : Pos} {v1 v2 : Value} {l k : List Mv} {qb : Nat} (h : O2At w0 W p v1 v2 l k q qb) (hb : Below W.heap.size W W') : O2At w0 W' p v1 v2 l k q qb := ⟨h.two.below hb, h.qx.below hb⟩
theorem O2At.mk1 {w0 W : World} {p : Pos} {v1 v2 : Value} {l k : List Mv} (h : TwoAt w0 W p v1 v2 l k) (q : Pos) : O2At w0 (W.alloc (.cells #[.string q.cells, .int .i64 q.side, .int .i64 q.clock, .int .i64 q.full] 23)) p v1 v2 l k q W.heap.size :=
  ⟨h.below (below_alloc (Below.refl _ _) _), BoxP.new W q⟩
theorem O2At.mk2 {w0 W0 W : World} {p : Pos} {v1 v2 : Value} {l k : List Mv} (h : TwoAt w0 W0 p v1 v2 l k) (hb : Below W0.heap.size W0 W) (z0 : W.cell? ⟨W0.heap.size, 0, none⟩ = some (.string { data := #[] })) (z1 : W.cell? ⟨W0.heap.size, 1, none⟩ = some (.int .i64 0)) (z2 : W.cell? ⟨W0.heap.size, 2, none⟩ = some (.int .i64 0)) (z3 : W.cell? ⟨W0.heap.size, 3, none⟩ = some (.int .i64 0)) (q : Pos) :
    O2At w0 ((((W.setCell ⟨W0.heap.size, 0, none⟩ (.string q.cells)).setCell ⟨W0.heap.size, 1, none⟩ (.int .i64 q.side)).setCell ⟨W0.heap.size, 2, none⟩ (.int .i64 q.clock)).setCell ⟨W0.heap.size, 3, none⟩ (.int .i64 q.full)) p v1 v2 l k q W0.heap.size :=
  ⟨h.below (Below.setCell (p := ⟨W0.heap.size, 3, none⟩) (Below.setCell (p := ⟨W0.heap.size, 2, none⟩) (Below.setCell (p := ⟨W0.heap.size, 1, none⟩) (Below.setCell (p := ⟨W0.heap.size, 0, none⟩) hb (Nat.le_refl _) _) (Nat.le_refl _) _) (Nat.le_refl _) _) (Nat.le_refl _) _), ⟨by simp [go_sem, z0, z1, z2, z3], by simp [go_sem, z0, z1, z2, z3], by simp [go_sem, z0, z1, z2, z3], by simp [go_sem, z0, z1, z2, z3]⟩⟩
theorem TwoAt.drew {w0 W : World} {p : Pos} {v1 v2 : Value} {l k : List Mv} (h : TwoAt w0 W p v1 v2 l k) : TwoAt w0 W.drew p v1 v2 l k := h.below (pw_below_drewN (Below.refl _ _) 1)
set_option maxRecDepth 100000 in
set_option maxHeartbeats 4000000 in
theorem right8_idle (w : World) (p : Pos) (hmx : p.cells.size ≤ maxLen) (hT : TabW w) (h : 200 < p.cells.size ∨ wellS p ≠ 0) : Calls Tryz.prog 3 #[posV p] w fun e w' => e = .returned (.bool true) ∧ Below w.heap.size w w' := by
  have HT := Aside0.mk (fun (W : World) (hb : Below w.heap.size w W) => hT.below hb)
  have HLV := Aside0.mk (fun (W : World) (hT : TabW W) => live8_c W hT)
  have HW := Aside0.mk (fun (W : World) (hT : TabW W) => well_c p W hT)
  have HM := Aside0.mk (fun (W : World) (hT : TabW W) => lmoves_c p W hT)
  have hu := Tryz.underlying23
  have HP0 := Aside0.mk (LmAt.new w p)
  unfold maxLen at hmx
  by_cases h200 : 200 < p.cells.size
  · have h1 : (200 : Int) < (p.cells.size : Int) := by omega
    clear h200 hmx hT h HM
    obtain ⟨e0, e1, e2, e3⟩ := HP0.out.box
    go_enter Tryz.func3, Tryz.ntmps3
    go_wp2_with (go_at_call 14; refine (HLV.out _ (HT.out _ HP0.out.bel)).mono ?_; rintro e w1 ⟨rfl, hb⟩; have HW1 := Aside0.mk (HP0.out.below hb).bel; clear hb)
    go_ret
    exact ⟨rfl, HW1.out⟩
  · have h1 : (p.cells.size : Int) ≤ 200 := by omega
    have hw : wellS p ≠ 0 := h.resolve_left h200
    rw [legal_no hw] at HM
    have h2 : (wellS p != 0) = true := by simpa using hw
    clear h200 hmx hT h hw
    generalize wellS p = r at *
    go_enter Tryz.func3, Tryz.ntmps3
    go_wp2_with (first
      | (go_at_call 12; refine (HW.out _ (HT.out _ HP0.out.bel)).mono ?_; rintro e w1 ⟨rfl, hb⟩; have HW1 := Aside0.mk (HP0.out.below hb); clear hb; obtain ⟨e0, e1, e2, e3⟩ := HW1.out.box)
      | (go_at_call 13; refine (HM.out _ (HT.out _ HW1.out.bel)).mono ?_; rintro e w2 ⟨v, rfl, ho, hb⟩; have HW2 := Aside0.mk (HW1.out.below hb); obtain ⟨A, cap, hv⟩ := ho.reads.form; have hv2 : v = .slice A 0 cap := hv; clear hv; subst hv2; clear ho hb e0 e1 e2 e3)
      | (go_at_call 14; refine (HLV.out _ (HT.out _ HW2.out.bel)).mono ?_; rintro e w3 ⟨rfl, hb⟩; have HW3 := Aside0.mk (HW2.out.below hb).bel; clear hb))
    go_ret
    exact ⟨rfl, HW3.out⟩
set_option maxRecDepth 100000 in
set_option maxHeartbeats 4000000 in
theorem legalRightLaw (w : World) (p : Pos) (hmx : p.cells.size ≤ maxLen) (hT : TabW w) : Calls Tryz.prog 3 #[posV p] w fun e w' => e = .returned (.bool true) ∧ Below w.heap.size w w' := by
  by_cases h200 : 200 < p.cells.size
  · exact right8_idle w p hmx hT (.inl h200)
  by_cases hw : wellS p = 0
  case neg => exact right8_idle w p hmx hT (.inr hw)
  have HT := Aside0.mk (fun (W : World) (hb : Below w.heap.size w W) => hT.below hb)
  have HLV := Aside0.mk (fun (W : World) (hT : TabW W) => live8_c W hT)
  have HW := Aside0.mk (fun (W : World) (hT : TabW W) => well_c p W hT)
  rw [hw] at HW
  have hu := Tryz.underlying23
  have hu2 := Tryz.underlying32
  have h1 : (p.cells.size : Int) ≤ 200 := by omega
  have hck := well_check hw
  have HM := Aside0.mk (fun (W : World) (hT : TabW W) => lmoves_c p W hT)
  have HRM := Aside0.mk (fun W => rmoves_c p hmx W)
  have HAP := Aside0.mk (fun (m : Mv) W => rapply_c p hmx (mviOf m) W)
  have HAS := Aside0.mk (fun (m : Mv) => apply_size (m := mviOf m) hck)
  have HWQ := Aside0.mk (fun (q : Pos) (h : q.cells.size ≤ maxLen) W => rwell_c q h W)
  have HIS := Aside0.mk (fun (m : Mv) (W : World) (hT : TabW W) => is8_c p (mviOf m) W hT)
  have HHS := Aside0.mk (fun (m : Mv) (v : Value) (W : World) (h : MvAt W w.heap.size v (legalL p)) => hasm_c (legalL p) m (legal_len2 p) w.heap.size v W h)
  have HEQ := Aside0.mk (fun m (h : m ∈ gathP p (fun _ => true)) => show decide (m ∈ legalL p) = safeS p (mviOf m) ∧ isS p (mviOf m) = safeS p (mviOf m) by
    constructor
    · rw [Bool.eq_iff_iff, decide_eq_true_eq, legal_mem]
      exact ⟨fun h => h.2.2, fun h2 => ⟨hw, h, h2⟩⟩
    · unfold isS; rw [hw]; rfl)
  have HSF := Aside0.mk (fun m => show safeS p (mviOf m) = ((applyP p (mviOf m)).2.2 == 0 && wellS (applyP p (mviOf m)).1 == 0) from rfl)
  have HLE := Aside0.mk (legal_len p)
  have HLL := Aside0.mk (gath_len p (fun _ => true))
  have HP0 := Aside0.mk (LmAt.new w p)
  clear hck hw h200 hmx hT
  generalize legalL p = l at *
  generalize gathP p (fun _ => true) = k at *
  go_enter Tryz.func3, Tryz.ntmps3
  go_wp2_with fail
  refine (HW.out _ (HT.out _ HP0.out.bel)).mono ?_
  rintro e w1 ⟨rfl, hb⟩
  have HP1 := Aside0.mk (HP0.out.below hb)
  clear hb HP0
  obtain ⟨e0, e1, e2, e3⟩ := HP1.out.box
  go_wp2_with fail
  refine (HM.out _ (HT.out _ HP1.out.bel)).mono ?_
  rintro e w2 ⟨v1, rfl, ho, hb⟩
  have HP2 := Aside0.mk (HP1.out.below hb)
  have HV2 := Aside0.mk (ho.reads.lower HP1.out.bel.size)
  clear ho hb HP1 e0 e1 e2 e3
  obtain ⟨e0, e1, e2, e3⟩ := HP2.out.box
  go_wp2_with fail
  refine (HRM.out _).mono ?_
  rintro e w3 ⟨v2, rfl, ho, hb⟩
  have HX := Aside0.mk (show TwoAt w w3 p v1 v2 l k from ⟨(HP2.out.below hb).box, HV2.out.below hb, ho.reads.lower HP2.out.bel.size, (HP2.out.below hb).bel⟩)
  clear ho hb HP2 HV2 e0 e1 e2 e3
  obtain ⟨A1, cap1, rfl⟩ := HX.out.m1.form
  obtain ⟨A2, cap2, rfl⟩ := HX.out.m2.form
  go_wp2_with fail
  go_loopg [5] k.length (fun gg s5 wr => ∃ i : Nat, s5 = .int .i64 (i : Int) ∧ i + gg = k.length ∧ Aside0 (TwoAt w wr p (.slice A1 l.length cap1) (.slice A2 k.length cap2) l k))
  case atStart => exact ⟨0, rfl, by omega, HX⟩
  case round =>
    clear HX
    obtain ⟨i, rfl, hi, HX⟩ := hrel
    cases gk with
    | zero =>
      have hn : ¬ ((i : Int) < (k.length : Int)) := by omega
      have hle : (l.length : Int) ≤ (k.length : Int) := by have := HLE.out; omega
      clear hi
      go_wp2_with (go_at_call 14; refine (HLV.out _ (HT.out _ HX.out.bel)).mono ?_; rintro e w5 ⟨rfl, hb⟩; have HW5 := Aside0.mk (below_go HX.out.bel hb); clear hb)
      go_ret
      exact ⟨rfl, HW5.out⟩
    | succ g =>
      have hn : (i : Int) < (k.length : Int) := by omega
      have hil : i < k.length := by omega
      have hib : (i : Int) ≤ 8100 := by have := HLL.out; omega
      have HI := Aside0.mk (show i + 1 + g = k.length by omega)
      obtain ⟨hhas, his⟩ := HEQ.out _ (List.getElem_mem hil)
      have HHS1 := Aside0.mk (HHS.out k[i])
      have HIS1 := Aside0.mk (HIS.out k[i])
      have HAP1 := Aside0.mk (HAP.out k[i])
      rw [hhas] at HHS1
      rw [his] at HIS1
      unfold ApplyIs at HAP1
      have hsf := HSF.out k[i]
      have hwq := HWQ.out _ (HAS.out k[i])
      obtain ⟨g1, cap1', hA1, _, hg1, hx1⟩ := HX.out.m2.at (fun h => by rw [h] at hil; simp at hil)
      simp only [Value.slice.injEq, true_and] at hA1
      obtain ⟨rfl, rfl⟩ := hA1
      obtain ⟨x0, x1⟩ := hx1 i hil
      have HXC := Aside0.mk (fun W (h : MvAt W w.heap.size (.slice (some ⟨g1, 0, none⟩) k.length cap2) k) => h.cell i hil)
      clear hx1 hi hhas his
      generalize k[i] = m at *
      obtain ⟨ma, mb2⟩ := m
      simp only at x0 x1
      generalize safeS p (mviOf (ma, mb2)) = sf at *
      generalize applyP p (mviOf (ma, mb2)) = r at *
      obtain ⟨q, c, er⟩ := r
      simp only at hsf hwq HAP1
      have HSF1 := Aside0.mk hsf
      have HWQ1 := Aside0.mk hwq
      obtain ⟨e0, e1, e2, e3⟩ := HX.out.box
      clear hil hsf hwq
      go_wp2_with fail
      have HX1 := Aside0.mk HX.out.drew
      clear HX
      go_cut [6, 7, 8] from 36 to 76 (fun s6 s7 s8 wx => ∃ qb : Nat, s6 = .pointer (some ⟨qb, 0, none⟩) ∧ s7 = .int .u8 (c : Int) ∧ s8 = .int .i64 er ∧ Aside0 (O2At w wx p (.slice A1 l.length cap1) (.slice (some ⟨g1, 0, none⟩) k.length cap2) l k q qb))
      case first =>
        go_region_held3 (fun W => W.cell? ⟨w.heap.size, 0, none⟩ = some (.string p.cells) ∧ W.cell? ⟨w.heap.size, 1, none⟩ = some (.int .i64 p.side) ∧ W.cell? ⟨w.heap.size, 2, none⟩ = some (.int .i64 p.clock) ∧ W.cell? ⟨w.heap.size, 3, none⟩ = some (.int .i64 p.full) ∧ W.cell? ⟨g1, i * 2, none⟩ = some (.int .i64 (ma : Int)) ∧ W.cell? ⟨g1, i * 2 + 1, none⟩ = some (.int .i64 (mb2 : Int))) (go_keep)
          (first
            | (go_at_call 16; (with_reducible refine (HAP1.out wr.drew).mono ?_); rintro e w6 ⟨rfl, hb⟩; have HX2 := Aside0.mk (HX1.out.below hb); clear HX1 hb e0 e1 e2 e3 x0 x1; obtain ⟨e0, e1, e2, e3⟩ := HX2.out.box; obtain ⟨x0, x1⟩ := HXC.out _ HX2.out.m2; have n0 : w6.heap.size ≠ w.heap.size := World.new_ne w6 _ e0; have n1 : w6.heap.size ≠ g1 := World.new_ne w6 _ x0)
            | (go_at_call 16; refine (HAP1.out _).mono ?_; rintro e w6 ⟨rfl, hb⟩; have HZ := Aside0.mk (zq_new wr.drew w6 hb); have HX2 := Aside0.mk ((HX1.out.below (below_alloc (Below.refl _ _) _)).below hb); have n0 : wr.heap.size ≠ w.heap.size := World.new_ne wr _ e0; have n1 : wr.heap.size ≠ g1 := World.new_ne wr _ x0; clear hb e0 e1 e2 e3 x0 x1; obtain ⟨e0, e1, e2, e3⟩ := HX2.out.box; obtain ⟨x0, x1⟩ := HXC.out _ HX2.out.m2; have z0 : w6.cell? ⟨wr.heap.size, 0, none⟩ = some (.string { data := #[] }) := HZ.out.1; have z1 : w6.cell? ⟨wr.heap.size, 1, none⟩ = some (.int .i64 0) := HZ.out.2.1; have z2 : w6.cell? ⟨wr.heap.size, 2, none⟩ = some (.int .i64 0) := HZ.out.2.2.1; have z3 : w6.cell? ⟨wr.heap.size, 3, none⟩ = some (.int .i64 0) := HZ.out.2.2.2.1; have zf : ∀ k, w6.frozen? ⟨wr.heap.size, k, none⟩ = false := HZ.out.2.2.2.2.1))
        all_goals
          go_wp2_with fail
          go_meet
          first
          | exact ⟨_, rfl, rfl, rfl, ⟨O2At.mk1 HX2.out q⟩⟩
          | exact ⟨_, rfl, rfl, rfl, ⟨O2At.mk2 HX1.out HZ.out.2.2.2.2.2 z0 z1 z2 z3 q⟩⟩
      case rest =>
      obtain ⟨qb, rfl, rfl, rfl, HQ⟩ := hcut
      clear e0 e1 e2 e3 x0 x1 HX1 HAP1
      obtain ⟨f0, f1, f2, f3⟩ := HQ.out.qx
      go_upto_region 9 with fail
      go_cut [9] from 36 to 76 (fun s9 wx => s9 = .bool sf ∧ Aside0 (TwoAt w wx p (.slice A1 l.length cap1) (.slice (some ⟨g1, 0, none⟩) k.length cap2) l k))
      case first =>
        cases h0 : (er == 0)
        case false =>
          have hsf : sf = false := by rw [HSF1.out, h0]; rfl
          clear HSF1 HWQ1
          subst hsf
          go_wp2_with fail
          go_meet
          exact ⟨rfl, ⟨HQ.out.two⟩⟩
        case true =>
          have hsf : sf = (wellS q == 0) := by rw [HSF1.out, h0]; rfl
          clear HSF1
          generalize wellS q = wq at *
          subst hsf
          go_wp2_with (go_at_call 17; refine (HWQ1.out _).mono ?_; rintro e w7 ⟨rfl, hb⟩; have HQ2 := Aside0.mk (HQ.out.below hb); clear hb)
          go_meet
          exact ⟨by simp, ⟨HQ2.out.two⟩⟩
      case rest =>
      obtain ⟨rfl, HX⟩ := hcut
      clear HQ f0 f1 f2 f3 HSF1 HWQ1
      have HX1 := Aside0.mk HX.out.drew
      obtain ⟨e0, e1, e2, e3⟩ := HX.out.box
      obtain ⟨x0, x1⟩ := HXC.out _ HX.out.m2
      clear HX
      cases sf
      all_goals
        go_wp2_with fail
        go_region_held3 (fun W => W.cell? ⟨w.heap.size, 0, none⟩ = some (.string p.cells) ∧ W.cell? ⟨w.heap.size, 1, none⟩ = some (.int .i64 p.side) ∧ W.cell? ⟨w.heap.size, 2, none⟩ = some (.int .i64 p.clock) ∧ W.cell? ⟨w.heap.size, 3, none⟩ = some (.int .i64 p.full) ∧ W.cell? ⟨g1, i * 2, none⟩ = some (.int .i64 (ma : Int)) ∧ W.cell? ⟨g1, i * 2 + 1, none⟩ = some (.int .i64 (mb2 : Int))) (go_keep)
          (first
            | (go_at_call 18; refine (HHS1.out _ _ HX1.out.m1).mono ?_; rintro e w8 ⟨rfl, hb⟩; have HX2 := Aside0.mk (HX1.out.below hb); clear HX1 hb e0 e1 e2 e3 x0 x1; obtain ⟨e0, e1, e2, e3⟩ := HX2.out.box; obtain ⟨x0, x1⟩ := HXC.out _ HX2.out.m2)
            | (go_at_call 19; refine (HIS1.out _ (HT.out _ HX2.out.bel)).mono ?_; rintro e w9 ⟨rfl, hb⟩; have HX3 := Aside0.mk (HX2.out.below hb); clear HX2 hb e0 e1 e2 e3 x0 x1; obtain ⟨e0, e1, e2, e3⟩ := HX3.out.box; obtain ⟨x0, x1⟩ := HXC.out _ HX3.out.m2))
        all_goals
          go_wp2_with fail
          go_roundg g
          case measure => omega
          case rel => exact ⟨i + 1, by go_num, by have := HI.out; omega, ⟨HX3.out⟩⟩
end Go.Proofs.YtgmlojocafepiaaGreatDoor.K

/- Flat types: what a value, and a slice's elements, of structs of numbers, bools and texts hold. No program in sight. -/
namespace Go.Proofs.YtgmlojocafepiaaGreatDoor.P
open Go Go.ChangeShapes Go.WideShapes
/-- The kind of one cell. -/
inductive FK where
  | int (k : IntKind)
  | bool
  | str
def FK.has : FK → Value → Prop
  | .int k, c => ∃ n, c = .int k n ∧ (Lit.int k n).wf = true
  | .bool, c => ∃ b, c = .bool b
  | .str, c => ∃ s : ByteArray, c = .string s ∧ s.size ≤ maxLen
/-- The kinds of a struct's cells, given those of its fields. -/
def flatFs (P : Program) (g : TypeId → Option (List FK)) : List Field → Nat → Option (List FK)
  | [], _ => some []
  | f :: r, off => (g f.type).bind fun a => if f.offset = off ∧ P.cellsOf f.type = a.length then (flatFs P g r (off + a.length)).map (a ++ ·) else none
def flatT (P : Program) : Nat → TypeId → Option (List FK)
  | 0, _ => none
  | d + 1, t => match P.underlying t with
    | some .bool => some [.bool]
    | some (.int k) => some [.int k]
    | some .string => some [.str]
    | some (.struct fs) => (flatFs P (flatT P d) fs.toList 0).bind fun ks => if P.cellsOf t = ks.length then some ks else none
    | _ => none
section
variable {H : Type} {enc : TypeId × Value → H} {P : Program} {w : World} {base : Nat} {spare : Nat → Bool} {held : Bool}
theorem flatFs_cells {g : TypeId → Option (List FK)} {n : Nat} {cs : List Value}
    (ih : ∀ t ks, g t = some ks → ∀ cs x, DataW.trod enc P w base spare held n t cs = some x → cs.length = ks.length ∧ ∀ (i : Nat) (k : FK) (c : Value), ks[i]? = some k → cs[i]? = some c → k.has c) :
    ∀ (l : List Field) (off : Nat) (ks : List FK), flatFs P g l off = some ks → (∀ f ∈ l, ∃ y, DataW.trod enc P w base spare held n f.type ((cs.drop f.offset).take (P.cellsOf f.type)) = some y) →
      ∀ (i : Nat) (k : FK) (c : Value), ks[i]? = some k → cs[off + i]? = some c → k.has c
  | [], off, ks, h, _, i, k, c, hk, _ => by
    simp only [flatFs, Option.some.injEq] at h
    subst h
    simp at hk
  | f :: r, off, ks, h, hy, i, k, c, hk, hc => by
    simp only [flatFs, Option.bind_eq_some_iff] at h
    obtain ⟨a, ha, h⟩ := h
    split at h
    · rename_i hh
      obtain ⟨h1, h2⟩ := hh
      simp only [Option.map_eq_some_iff] at h
      obtain ⟨b, hb, rfl⟩ := h
      obtain ⟨y, hy0⟩ := hy f (by simp)
      obtain ⟨hl, hh⟩ := ih _ _ ha _ _ hy0
      by_cases hi : i < a.length
      · rw [List.getElem?_append_left hi] at hk
        refine hh i k c hk ?_
        rw [List.getElem?_take, List.getElem?_drop, h1, h2, if_pos hi]
        exact hc
      · rw [List.getElem?_append_right (by omega)] at hk
        refine flatFs_cells ih r (off + a.length) b hb (fun f hf => hy f (by simp [hf])) (i - a.length) k c hk ?_
        rw [show off + a.length + (i - a.length) = off + i by omega]
        exact hc
    · cases h
theorem flat_cells : ∀ (d : Nat) (t : TypeId) (ks : List FK), flatT P d t = some ks → ∀ (n : Nat) (cs : List Value) (x : DataW H × List MemPlace), DataW.trod enc P w base spare held n t cs = some x →
    cs.length = ks.length ∧ ∀ (i : Nat) (k : FK) (c : Value), ks[i]? = some k → cs[i]? = some c → k.has c
  | 0, _, _, h => by simp [flatT] at h
  | d + 1, t, ks, h => by
    intro n cs x hx
    unfold flatT at h
    split at h
    · rename_i ht
      obtain rfl := Option.some.inj h
      obtain ⟨b, rfl, rfl⟩ := DataW.trod_bool ht hx
      refine ⟨rfl, fun i k c hk hc => ?_⟩
      match i with
      | 0 => simp at hk hc; subst hk hc; exact ⟨b, rfl⟩
      | i + 1 => simp at hk
    · rename_i k ht
      obtain rfl := Option.some.inj h
      obtain ⟨m, rfl, rfl, hw⟩ := DataW.trod_int ht hx
      refine ⟨rfl, fun i k c hk hc => ?_⟩
      match i with
      | 0 => simp at hk hc; subst hk hc; exact ⟨m, rfl, hw⟩
      | i + 1 => simp at hk
    · rename_i ht
      obtain rfl := Option.some.inj h
      obtain ⟨s, rfl, rfl, hs⟩ := DataW.trod_string ht hx
      refine ⟨rfl, fun i k c hk hc => ?_⟩
      match i with
      | 0 => simp at hk hc; subst hk hc; exact ⟨s, rfl, hs⟩
      | i + 1 => simp at hk
    · rename_i fs ht
      simp only [Option.bind_eq_some_iff] at h
      obtain ⟨ks', hks, h⟩ := h
      split at h
      · rename_i hsz
        obtain rfl := Option.some.inj h
        obtain ⟨xs, m, rfl, rfl, hlen, hxl, hf⟩ := DataW.trod_struct ht hx
        refine ⟨hlen.trans hsz, ?_⟩
        have := flatFs_cells (enc := enc) (w := w) (base := base) (spare := spare) (held := held) (n := m) (cs := cs) (fun t ks hg => flat_cells d t ks hg m) fs.toList 0 ks' hks (by
          intro f hfm
          obtain ⟨i, hi⟩ := List.getElem?_of_mem hfm
          have hfi : fs[i]? = some f := by simpa using hi
          have h1 := hf i f hfi
          have hlt : i < xs.length := by
            rw [hxl]
            rcases Nat.lt_or_ge i fs.size with h | h
            · exact h
            · simp [Array.getElem?_eq_none h] at hfi
          exact ⟨xs[i], h1.trans (List.getElem?_eq_getElem hlt)⟩)
        intro i k c hk hc
        exact this i k c hk (by simpa using hc)
      · cases h
    · cases h
/-- A slice of flat elements: its cells. -/
theorem flat_slice {t e : TypeId} {d : Nat} {ks : List FK} {n : Nat} {a : Option Addr} {len cap : Nat} {x : DataW H × List MemPlace} (ht : P.underlying t = some (.slice e)) (he : flatT P d e = some ks) (hc : P.cellsOf e = ks.length)
    (h : DataW.trod enc P w base spare held n t [.slice a len cap] = some x) :
    (a = none ∧ len = 0 ∧ cap = 0) ∨ ∃ ad, a = some ad ∧ len ≤ cap ∧ cap ≤ maxLen ∧ ∀ i, i < len → ∀ (j : Nat) (k : FK), ks[j]? = some k → ∃ c, w.cell? (ad.add (i * ks.length + j)) = some c ∧ k.has c := by
  rcases Deep.open_slice ht h with ⟨h0, _⟩ | ⟨ad, len', cap', m, n', D, Pl, h0, hb, hl, hm, hmm, _, hx⟩
  · simp at h0; exact .inl h0
  · simp only [List.cons.injEq, Value.slice.injEq, and_true] at h0
    obtain ⟨rfl, rfl, rfl⟩ := h0
    refine .inr ⟨ad, rfl, hl, hm, fun i hi j k hj => ?_⟩
    have hlm : len ≤ m := by rw [hmm]; split <;> omega
    obtain ⟨cs, h1, h2⟩ := hx i (by omega)
    obtain ⟨_, hlen, hcell⟩ := World.cells?_some h1
    obtain ⟨hcl, hch⟩ := flat_cells d e ks he _ _ _ h2
    have hjk : j < ks.length := by
      rcases Nat.lt_or_ge j ks.length with h | h
      · exact h
      · simp [List.getElem?_eq_none h] at hj
    have hjc : j < cs.length := by omega
    have := hcell j (by omega)
    rw [Deep.add_add, hc, List.getElem?_eq_getElem hjc] at this
    exact ⟨_, this, hch j k _ hj (List.getElem?_eq_getElem hjc)⟩
end
theorem list_cons {α : Type} {l : List α} {n : Nat} (h : l.length = n + 1) : ∃ x r, l = x :: r ∧ r.length = n := by
  cases l with
  | nil => simp at h
  | cons x r => exact ⟨x, r, rfl, by simpa using h⟩
theorem list_nil {α : Type} {l : List α} (h : l.length = 0) : l = [] := List.length_eq_zero_iff.1 h
theorem wf_u64 {n : Int} (h : (Lit.int .u64 n).wf = true) : 0 ≤ n := by
  simp only [Lit.wf, Bool.and_eq_true, decide_eq_true_eq] at h
  have h1 := h.1
  simp [IntKind.min, IntKind.signed] at h1
  exact h1
theorem wf_i64 {n : Int} (h : (Lit.int .i64 n).wf = true) : -9223372036854775808 ≤ n ∧ n ≤ 9223372036854775807 := by
  simp only [Lit.wf, Bool.and_eq_true, decide_eq_true_eq] at h
  obtain ⟨h1, h2⟩ := h
  simp [IntKind.min, IntKind.max, IntKind.signed, IntKind.bits] at h1 h2
  exact ⟨h1, h2⟩
theorem wf_u8 {n : Int} (h : (Lit.int .u8 n).wf = true) : 0 ≤ n ∧ n ≤ 255 := by
  simp only [Lit.wf, Bool.and_eq_true, decide_eq_true_eq] at h
  obtain ⟨h1, h2⟩ := h
  simp [IntKind.min, IntKind.max, IntKind.signed, IntKind.bits] at h1 h2
  exact ⟨h1, h2⟩
end Go.Proofs.YtgmlojocafepiaaGreatDoor.P
