/- Walks and plain laws that several statements lean on, joined: no statement of the seat is proved here. -/
import Derived.Test.YtafmapadkpjliaaGreatDoorB12
import Derived.Test.YtafmapadkpjliaaGreatDoorB8
import Derived.Test.YtafmapadkpjliaaGreatDoorB7
import Derived.Test.YtafmapadkpjliaaGreatDoorB5
import Derived.Test.YtafmapadkpjliaaGreatDoorB6
import Derived.Test.YtafmapadkpjliaaGreatDoorB10
import Derived.Test.YtafmapadkpjliaaGreatDoorB11

/- search: Limited, of the whole. -/
namespace Go.Proofs.YtafmapadkpjliaaGreatDoor.K
open Go.RowKit Go.Lib Go.Proofs.YtafmapadkpjliaaGreatDoorW.PrintWords Go.Proofs.YtafmapadkpjliaaGreatDoorW.PrintLast Go.Proofs.YtafmapadkpjliaaGreatDoorW.PrintMore Go.Proofs.YtafmapadkpjliaaGreatDoor.Sp
set_option linter.unusedVariables false
set_option linter.unusedSimpArgs false
theorem LiAt.mkput {W0 W : World} {p : Pos} {v : Value} {l : List Mv} {rb n : Nat} {a0 b0 s0 D0 : Int} {f0 : Bool} (h : BsAt W0 W p) (hm : MvAt W W0.heap.size v l) (ho : ∀ k, v.ownBlock = some k → W0.heap.size ≤ k ∧ k < n) (hz : BoxR W rb a0 b0 s0 D0 f0) (hn : n ≤ rb) (h2 : W0.heap.size + 1 < n) (a b s D : Int) (f : Bool) :
    LiAt W0 (setR W rb a b s D f) p v l rb a b s D f := by
  have hk := ken_setR W rb a b s D f
  exact ⟨h.ken hk (fun k hk => by omega), hm.ken hk (fun k hk2 e => by have := ho k hk2; omega), hz.put a b s D f, by omega, fun k hk2 => ⟨(ho k hk2).1, by have := (ho k hk2).2; omega⟩⟩
theorem LiAt.mknew {W0 W : World} {p : Pos} {v : Value} {l : List Mv} {n : Nat} (h : BsAt W0 W p) (hm : MvAt W W0.heap.size v l) (ho : ∀ k, v.ownBlock = some k → W0.heap.size ≤ k ∧ k < n) (hn : n ≤ W.heap.size) (h2 : W0.heap.size + 1 < n) (a b s D : Int) (f : Bool) (T : TypeId) :
    LiAt W0 (W.alloc (.cells #[.int .i64 a, .int .i64 b, .int .i64 s, .int .i64 D, .bool f] T)) p v l W.heap.size a b s D f :=
  ⟨h.below (below_alloc (Below.refl _ _) _), hm.below (below_alloc (Below.refl _ _) _), BoxR.new W a b s D f T, by omega, fun k hk2 => ⟨(ho k hk2).1, by have := (ho k hk2).2; omega⟩⟩
/-- What stands behind a look of a finder of new blocks. -/
structure L4At (W0 W4 : World) (p : Pos) (v : Value) (l : List Mv) (n : Nat) : Prop where
  bs : BsAt W0 W4 p
  row : MvAt W4 W0.heap.size v l
  own : ∀ k, v.ownBlock = some k → W0.heap.size ≤ k ∧ k < n
  le : n ≤ W4.heap.size
  n2 : W0.heap.size + 1 < n
theorem L4At.mk' {W0 W1 w3 w4 : World} {p : Pos} {vr : Value} {l : List Mv} {fb tb sb n : Nat} (hl : ∀ k, vr.ownBlock = some k → W0.heap.size ≤ k ∧ k < n) (hrow : MvAt W1 W0.heap.size vr l) (h : BsAt W0 W1 p) (hn : n ≤ W1.heap.size) (h2 : W0.heap.size + 1 < n) (hb : Below W1.heap.size W1 w3) (hfs : ∀ k, FinS fb tb sb k → W1.heap.size ≤ k) (hk : Ken (FinS fb tb sb) w3 w4) : L4At W0 w4 p vr l n := by
  refine ⟨(h.below hb).ken hk (fun k hk2 => by have := hfs k hk2; omega), (hrow.below hb).ken hk (fun k hk2 hf => by have := hfs k hf; have := (hl k hk2).2; omega), hl, Nat.le_trans hn (Nat.le_trans hb.size hk.size), h2⟩
/-- What stands between find and root. -/
structure L3At (W0 w3 : World) (p : Pos) (vr : Value) (l : List Mv) (fb tb sb c : Nat) (most : Int) (n : Nat) : Prop where
  bs : BsAt W0 w3 p
  row : MvAt w3 W0.heap.size vr l
  fin : FinAt w3 fb tb sb c most
  cc : c ≤ 1000000000
  own : ∀ k, vr.ownBlock = some k → ¬ FinS fb tb sb k ∧ k < w3.heap.size
  call : ∀ w4, Ken (FinS fb tb sb) w3 w4 → L4At W0 w4 p vr l n
theorem L3At.mk' {W0 W1 w3 : World} {p : Pos} {vr : Value} {l : List Mv} {fb tb sb c n : Nat} {most : Int} (hl : ∀ k, vr.ownBlock = some k → W0.heap.size ≤ k ∧ k < n) (hrow : MvAt W1 W0.heap.size vr l) (h : BsAt W0 W1 p) (hn : n ≤ W1.heap.size) (h2 : W0.heap.size + 1 < n) (hb : Below W1.heap.size W1 w3) (hfs : ∀ k, FinS fb tb sb k → (False ∧ k < W1.heap.size) ∨ W1.heap.size ≤ k) (hf : FinAt w3 fb tb sb c most) (hc : c ≤ 0) : L3At W0 w3 p vr l fb tb sb c most n := by
  have hs : ∀ k, FinS fb tb sb k → W1.heap.size ≤ k := fun k hk => (hfs k hk).resolve_left (fun h => h.1)
  exact ⟨h.below hb, hrow.below hb, hf, by omega, fun k hk => ⟨fun hf => by have := hs k hf; have := (hl k hk).2; omega, by have := (hl k hk).2; have := hb.size; omega⟩, fun w4 hk => L4At.mk' hl hrow h hn h2 hb hs hk⟩
theorem L3At.more {W0 w3 : World} {p : Pos} {vr : Value} {l : List Mv} {fb tb sb c n : Nat} {most : Int} (h : L3At W0 w3 p vr l fb tb sb c most n) (o : Obj) : L3At W0 (w3.alloc o) p vr l fb tb sb c most n := by
  have hb := below_alloc (Below.refl w3.heap.size w3) o
  exact ⟨h.bs.below hb, h.row.below hb, h.fin.below hb, h.cc, fun k hk => ⟨(h.own k hk).1, Nat.lt_of_lt_of_le (h.own k hk).2 hb.size⟩, fun w4 hk => h.call w4 ((Ken.of_below hb _).trans hk (fun j hj => .inl hj))⟩
theorem L3At.call0 {W0 w3 : World} {p : Pos} {vr : Value} {l : List Mv} {fb tb sb c n : Nat} {most : Int} (h : L3At W0 w3 p vr l fb tb sb c most n) : n ≤ w3.heap.size := (h.call w3 (Ken.refl _ _)).le
theorem not_new {fb tb sb : Nat} {w : World} {o : Obj} (hfs : ∀ k, FinS fb tb sb k → (False ∧ k < (w.drew.alloc o).heap.size) ∨ (w.drew.alloc o).heap.size ≤ k) (hs : FinS fb tb sb w.heap.size) : False := by
  rcases hfs _ hs with h | h
  · exact h.1
  · rw [World.size_alloc] at h
    exact absurd h (Nat.not_succ_le_self _)
theorem resT_not {o : Option (Mv × Int)} {D a b s D' : Int} (h : resT o D a b s D' false) : o = none := by
  cases o with
  | none => rfl
  | some x => obtain ⟨m, v⟩ := x; obtain ⟨_, _, _, _, h⟩ := h; cases h
theorem firstB_none {f : Mv → Int} {l : List Mv} (h : firstB f l = none) : l = [] := by
  cases l with
  | nil => rfl
  | cons m r => obtain ⟨b, v, hb⟩ := firstB_some f (m :: r) (by simp); rw [hb] at h; cases h
/-- Where nothing is found at one depth, nothing is at any. -/
theorem resT_any {f g : Mv → Int} {l : List Mv} {D a b s D' : Int} (h : resT (firstB f l) D a b s D' false) (E : Int) : resT (firstB g l) E a b s D' false := by
  have h1 := resT_not h
  have h2 := firstB_none h1
  subst h2
  rw [firstB_nil] at h ⊢
  exact h
set_option maxRecDepth 100000 in
set_option maxHeartbeats 8000000 in
theorem lim_ok (p : Pos) (d : Nat) (hd : d ≤ 1) (h9 : nP p.cells ≤ 9) (most : Int) (hm : 1 ≤ most) (hm2 : most ≤ 9223372036854775807) (W : World) (hT : TabW W) (hE : begE p ((d : Int) + 1) 1 [] = 0) :
    Calls Tryz.prog 15 #[posV p, .int .i64 ((d : Int) + 1), .int .i64 most] W (LimOk p d most W) := by
  have HT := Aside0.mk (fun (W' : World) (hb : Below W.heap.size W W') => hT.below hb)
  have HB := fun (W' : World) (hb : Below W.heap.size W W') => begin_c p ((d : Int) + 1) 1 [] (by decide) 0 (.slice none 0 0) W' (RowI.nil _ _) (hT.below hb)
  unfold BegIs at HB
  rw [hE] at HB
  rw [show begL p [] = legalL p from if_pos rfl] at HB
  have HB := Aside0.mk HB
  obtain ⟨hw, _, _⟩ := begE_zero hE
  have hLN : (legalL p).length ≤ 810 := by
    have h2 := legalR_few hw
    rw [← legal_eq hw] at h2
    omega
  have HRT := fun (e : Nat) (he : e ≤ 1) (Bm : Nat) (v : Value) (fb tb sb c : Nat) (left : Int) (W : World) (h1 : MvAt W Bm v (legalL p)) (h2 : ∀ k, v.ownBlock = some k → ¬ FinS fb tb sb k ∧ k < W.heap.size) (h3 : c ≤ 1000000000) (h6 : 1 ≤ left) (h7 : left ≤ 1073741824) (h4 : FinAt W fb tb sb c left) (h5 : TabW W) =>
    root_c p e (legalL p) Bm v fb tb sb c left W hw h9 (by omega) (fun m hm => hm) hLN h1 h2 (by
      have hL : lookN 810 e ≤ 811 := by rcases Nat.le_one_iff_eq_zero_or_eq_one.1 he with rfl | rfl <;> decide
      omega) (by omega) (by omega) h4 h5
  have HRT0 := Aside0.mk (fun (Bm : Nat) (v : Value) (fb tb sb c : Nat) (left : Int) (W : World) (h1 : MvAt W Bm v (legalL p)) (h2 : ∀ k, v.ownBlock = some k → ¬ FinS fb tb sb k ∧ k < W.heap.size) (h3 : c ≤ 1000000000) (h6 : 1 ≤ left) (h7 : left ≤ 1073741824) (h4 : FinAt W fb tb sb c left) (h5 : TabW W) => show Calls Tryz.prog 25 #[.pointer (some ⟨fb, 0, none⟩), posV p, .int .i64 1, v] W (RootIs p 0 (legalL p) fb tb sb c left W) from HRT 0 (by decide) Bm v fb tb sb c left W h1 h2 h3 h6 h7 h4 h5)
  have HRT1 := Aside0.mk (fun (Bm : Nat) (v : Value) (fb tb sb c : Nat) (left : Int) (W : World) (h1 : MvAt W Bm v (legalL p)) (h2 : ∀ k, v.ownBlock = some k → ¬ FinS fb tb sb k ∧ k < W.heap.size) (h3 : c ≤ 1000000000) (h6 : 1 ≤ left) (h7 : left ≤ 1073741824) (h4 : FinAt W fb tb sb c left) (h5 : TabW W) => show Calls Tryz.prog 25 #[.pointer (some ⟨fb, 0, none⟩), posV p, .int .i64 2, v] W (RootIs p 1 (legalL p) fb tb sb c left W) from HRT 1 (by decide) Bm v fb tb sb c left W h1 h2 h3 h6 h7 h4 h5)
  unfold RootIs at HRT0 HRT1
  have HLB0 := Aside0.mk (show (((legalL p).length * lookN 810 0 : Nat) : Int) ≤ 656910 by
    rw [show lookN 810 0 = 1 from rfl]; omega)
  have HLB1 := Aside0.mk (show (((legalL p).length * lookN 810 1 : Nat) : Int) ≤ 656910 by
    rw [show lookN 810 1 = 811 from by decide]; omega)
  have HFD := Aside0.mk (fun (most : Int) (W1 : World) (hb : Below W.heap.size W W1) => find_nil most W1 (hT.below hb) W1 (Below.refl _ _))
  have hu := Tryz.underlying23
  have hu3 := Tryz.underlying38
  have hu4 := Tryz.underlying67
  have HS := Aside0.mk (BsAt.start W p)
  have HEND := Aside0.mk (fun (a b s D : Int) (f : Bool) (dd : Nat) (w' : World) (h1 : dd ≤ d) (h2 : 1000000 ≤ most → dd = d) (h3 : resT (firstB (moveW p dd 0) (legalL p)) ((dd : Int) + 1) a b s D f) (h4 : Below W.heap.size W w') => show LimOk p d most W (.returned (.tuple #[resV a b s D f, .int .i64 0])) w' from ⟨a, b, s, D, f, dd, rfl, h1, h2, h3, h4⟩)
  have HD1 := Aside0.mk hd
  generalize lookN 810 0 = L0 at *
  generalize lookN 810 1 = L1 at *
  generalize hff : moveW p 0 0 = f0 at *
  generalize hfg : moveW p 1 0 = f1 at *
  have HFF := Aside0.mk (And.intro hff hfg)
  generalize legalL p = l at *
  have hdb : (d : Int) ≤ 1 := by omega
  clear hE hT hLN hw h9 hd HRT hff hfg
  go_enter Tryz.func15, Tryz.ntmps15
  go_upto_region 1 with fail
  generalize (W.alloc (.cells #[.string p.cells, .int .i64 p.side, .int .i64 p.clock, .int .i64 p.full] 23)).alloc (.cells #[.int .i64 0, .int .i64 0, .int .i64 0, .int .i64 0, .bool false] 38) = W1 at *
  obtain ⟨c0, c1, c2, c3⟩ := HS.out.box
  go_wp2_with fail
  refine (HB.out _ HS.out.bel).mono ?_
  rintro e w1 ⟨vr, rfl, ho, hb⟩
  have H1 := Aside0.mk (And.intro (HS.out.below hb) (OwnM.lower (ho (by trivial)) HS.out.bel.size))
  have HOW := Aside0.mk (show ∀ k, vr.ownBlock = some k → W.heap.size ≤ k ∧ k < w1.heap.size from H1.out.2.lt)
  have HN2 := Aside0.mk (show W.heap.size + 1 < w1.heap.size from H1.out.1.ans.lt)
  clear ho hb c0 c1 c2 c3 HS HB
  obtain ⟨c0, c1, c2, c3⟩ := H1.out.1.box
  have n1 : w1.heap.size ≠ W.heap.size := World.new_ne w1 _ c0
  go_upto_region 6 with fail
  have H2 : Aside0 (BsAt W w1.drew p ∧ OwnM w1.drew W.heap.size vr l) := Aside0.mk (And.intro (H1.out.1.below (pw_below_drewN (Below.refl _ _) 1)) (OwnM.below H1.out.2 (pw_below_drewN (Below.refl _ _) 1)))
  go_cut [10] from 29 to 32 (fun s10 wx => ∃ (rb : Nat) (a b s D : Int) (f : Bool), s10 = .pointer (some ⟨rb, 0, none⟩) ∧ Aside0 (LiAt W wx p vr l rb a b s D f ∧ resT (firstB f0 l) 1 a b s D f))
  case first =>
    go_region_held3 (fun w' => w'.cell? ⟨W.heap.size, 0, none⟩ = some (.string p.cells) ∧ w'.cell? ⟨W.heap.size, 1, none⟩ = some (.int .i64 p.side) ∧ w'.cell? ⟨W.heap.size, 2, none⟩ = some (.int .i64 p.clock) ∧ w'.cell? ⟨W.heap.size, 3, none⟩ = some (.int .i64 p.full)) (go_keep)
      (first
        | (go_at_call 22; (with_reducible refine (HFD.out 1073741824 w1.drew H2.out.1.bel).mono ?_); rintro e w3 ⟨fb, tb, sb, c, rfl, hfin, hcC, hfs, hR, hb⟩; have H3 := Aside0.mk (L3At.mk' (n := w1.heap.size) HOW.out H2.out.2.reads H2.out.1 (Nat.le_refl _) HN2.out hb hfs hfin hcC); clear hfin hcC hfs hR hb c0 c1 c2 c3; obtain ⟨c0, c1, c2, c3⟩ := H3.out.bs.box; have n3 : w3.heap.size ≠ W.heap.size := World.new_ne w3 _ c0)
        | (go_at_call 22; refine (HFD.out 1073741824 (w1.drew.alloc (.cells #[.int .i64 0, .int .i64 0, .int .i64 0, .int .i64 0, .bool false] 38)) (below_new H2.out.1.bel _)).mono ?_; rintro e w3 ⟨fb, tb, sb, c, rfl, hfin, hcC, hfs, hR, hb⟩; have H3 := Aside0.mk (L3At.mk' (n := w1.heap.size) HOW.out (H2.out.2.reads.below (below_alloc (Below.refl _ _) _)) (H2.out.1.below (below_alloc (Below.refl _ _) _)) (below_alloc (Below.refl w1.drew.heap.size w1.drew) _).size HN2.out hb hfs hfin hcC); have HZ3 := Aside0.mk (And.intro (show BoxR w3 w1.heap.size 0 0 0 0 false from (BoxR.new w1.drew 0 0 0 0 false 38).below hb) (fun hs => not_new hfs hs)); clear hfin hcC hfs hR hb c0 c1 c2 c3; obtain ⟨c0, c1, c2, c3⟩ := H3.out.bs.box; have n3 : w3.heap.size ≠ W.heap.size := World.new_ne w3 _ c0)
        | (go_at_call 25; refine (HRT0.out W.heap.size vr fb tb sb c 1073741824 w3 H3.out.row H3.out.own H3.out.cc (by decide) (by decide) H3.out.fin (HT.out _ H3.out.bs.bel)).mono ?_; rintro e w4 ⟨a, b, s, D, f, left', c', rfl, h1, h2, hfin, hken⟩; have HZA : Aside0 (BoxR w4 w1.heap.size 0 0 0 0 false) := Aside0.mk (HZ3.out.1.ken hken HZ3.out.2); have H4 := Aside0.mk (And.intro (H3.out.call w4 hken) (h1 (by have := HLB0.out; omega))); clear h1 h2 hfin hken c0 c1 c2 c3; obtain ⟨c0, c1, c2, c3⟩ := H4.out.1.bs.box; obtain ⟨z0, z1, z2, z3, z4, zf⟩ := HZA.out)
        | (go_at_call 25; (with_reducible refine (HRT0.out W.heap.size vr fb tb sb c 1073741824 w3 H3.out.row H3.out.own H3.out.cc (by decide) (by decide) H3.out.fin (HT.out _ H3.out.bs.bel)).mono ?_); rintro e w4 ⟨a, b, s, D, f, left', c', rfl, h1, h2, hfin, hken⟩; have H4 := Aside0.mk (And.intro (H3.out.call w4 hken) (h1 (by have := HLB0.out; omega))); clear h1 h2 hfin hken c0 c1 c2 c3; obtain ⟨c0, c1, c2, c3⟩ := H4.out.1.bs.box; have n4 : w4.heap.size ≠ W.heap.size := World.new_ne w4 _ c0)
        | (go_at_call 25; refine (HRT0.out W.heap.size vr fb tb sb c 1073741824 (w3.alloc (.cells #[.int .i64 0, .int .i64 0, .int .i64 0, .int .i64 0, .bool false] 38)) (H3.out.more (.cells #[.int .i64 0, .int .i64 0, .int .i64 0, .int .i64 0, .bool false] 38)).row (H3.out.more (.cells #[.int .i64 0, .int .i64 0, .int .i64 0, .int .i64 0, .bool false] 38)).own (H3.out.more (.cells #[.int .i64 0, .int .i64 0, .int .i64 0, .int .i64 0, .bool false] 38)).cc (by decide) (by decide) (H3.out.more (.cells #[.int .i64 0, .int .i64 0, .int .i64 0, .int .i64 0, .bool false] 38)).fin (HT.out _ (H3.out.more (.cells #[.int .i64 0, .int .i64 0, .int .i64 0, .int .i64 0, .bool false] 38)).bs.bel)).mono ?_; rintro e w4 ⟨a, b, s, D, f, left', c', rfl, h1, h2, hfin, hken⟩; have HZB : Aside0 (BoxR w4 w3.heap.size 0 0 0 0 false) := Aside0.mk ((BoxR.new w3 0 0 0 0 false 38).ken hken (H3.out.fin.new (Nat.le_refl _))); have H4 := Aside0.mk (And.intro ((H3.out.more (.cells #[.int .i64 0, .int .i64 0, .int .i64 0, .int .i64 0, .bool false] 38)).call w4 hken) (h1 (by have := HLB0.out; omega))); clear h1 h2 hfin hken c0 c1 c2 c3; obtain ⟨c0, c1, c2, c3⟩ := H4.out.1.bs.box; obtain ⟨z0, z1, z2, z3, z4, zf⟩ := HZB.out))
    all_goals
      go_wp2_with fail
      go_meet
      first
      | exact ⟨w1.heap.size, a, b, s, D, f, rfl, ⟨LiAt.mkput H4.out.1.bs H4.out.1.row H4.out.1.own HZA.out (Nat.le_refl _) H4.out.1.n2 a b s D f, H4.out.2⟩⟩
      | exact ⟨w3.heap.size, a, b, s, D, f, rfl, ⟨LiAt.mkput H4.out.1.bs H4.out.1.row H4.out.1.own HZB.out H3.out.call0 H4.out.1.n2 a b s D f, H4.out.2⟩⟩
      | exact ⟨_, a, b, s, D, f, rfl, ⟨LiAt.mknew H4.out.1.bs H4.out.1.row H4.out.1.own H4.out.1.le H4.out.1.n2 a b s D f _, H4.out.2⟩⟩
  case rest =>
    obtain ⟨rb, a, b, s, D, f, rfl, HL⟩ := hcut
    clear c0 c1 c2 c3 H2 H1 HOW HRT0 HN2 n1
    have hmb : min most 1073741824 ≤ 1073741824 := by omega
    have hma : 1 ≤ min most 1073741824 := by omega
    have HMM := Aside0.mk (fun (h : 1000000 ≤ most) => show 1000000 ≤ min most 1073741824 by omega)
    go_wp2_with fail
    refine (HFD.out (min most 1073741824) wc HL.out.1.bs.bel).mono ?_
    rintro e w5 ⟨fb, tb, sb, c, rfl, hfin, hcC, hfs, hR, hb⟩
    have H5 := Aside0.mk (And.intro (And.intro (HL.out.1.below hb) HL.out.2) (And.intro (And.intro hfin hcC) (show ∀ k, FinS fb tb sb k → wc.heap.size ≤ k from fun k hk => (hfs k hk).resolve_left (fun h => h.1))))
    have HWC := Aside0.mk (show rb < wc.heap.size ∧ ∀ k, vr.ownBlock = some k → k < wc.heap.size from ⟨HL.out.1.box.lt, fun k hk => Nat.lt_trans (HL.out.1.own k hk).2 HL.out.1.box.lt⟩)
    clear hfin hcC hfs hR hb HL HFD
    generalize hmo : min most 1073741824 = mo at *
    clear hmo
    have hdz1 : (d : Int) + 1 ≤ 2 := by omega
    have HDZ := Aside0.mk (And.intro (fun (h : 2 ≤ (d : Int) + 1) => show d = 1 by have := HD1.out; omega) (fun (h : ¬ 2 ≤ (d : Int) + 1) => show d = 0 by omega))
    generalize (d : Int) + 1 = dz at *
    clear hdb
    go_wp2_with fail
    go_loopg [11] 1 (fun gg s11 wr => ∃ (j : Nat) (a b s D : Int) (f : Bool), s11 = .int .i64 (2 + (j : Int)) ∧ j + gg = 1 ∧ Aside0 (j ≤ d ∧ (j = 1 → d = 1) ∧ resT (firstB (moveW p j 0) l) ((j : Int) + 1) a b s D f) ∧ Aside0 (LiAt W wr p vr l rb a b s D f) ∧ Aside0 (j = 0 → FinAt wr fb tb sb c mo))
    case atStart => exact ⟨0, a, b, s, D, f, rfl, by omega, ⟨Nat.zero_le _, by omega, by rw [HFF.out.1]; exact H5.out.1.2⟩, ⟨H5.out.1.1⟩, ⟨fun _ => H5.out.2.1.1⟩⟩
    case round =>
      have HFS := Aside0.mk H5.out.2.2
      have HCC := Aside0.mk (show c ≤ 1000000000 by have := H5.out.2.1.2; omega)
      clear H5
      obtain ⟨j, a, b, s, D, f, rfl, hj, HR, HL, HF⟩ := hrel
      cases gk with
      | zero =>
        obtain rfl : j = 1 := by omega
        rw [show (2 : Int) + ((1 : Nat) : Int) = 3 from rfl]
        have hn : ¬ (3 : Int) ≤ dz := by omega
        have HE1 := Aside0.mk (show (1 : Nat) ≤ d ∧ (1000000 ≤ most → 1 = d) from ⟨HR.out.1, fun _ => (HR.out.2.1 rfl).symm⟩)
        clear hj HF
        obtain ⟨q0, q1, q2, q3, q4, qf⟩ := HL.out.bs.ans
        obtain ⟨r0, r1, r2, r3, r4, rf⟩ := HL.out.box
        go_wp2_with fail
        refine bodyPost_ret (by simp [results, Tryz.results15, go_sem, q0, q1, q2, q3, q4, r0, r1, r2, r3, r4]; try rfl) rfl ?_
        exact HEND.out a b s D f 1 _ HE1.out.1 HE1.out.2 HR.out.2.2 (below_setR HL.out.bs.bel (Nat.le_succ _) a b s D f)
      | succ g =>
        obtain rfl : j = 0 := by omega
        rw [show (2 : Int) + ((0 : Nat) : Int) = 2 from rfl]
        have HG0 := Aside0.mk (show g = 0 by omega)
        clear hj
        by_cases hd1 : 2 ≤ dz
        case neg =>
          have HD0 := Aside0.mk (show d = 0 by have := HDZ.out.2; omega)
          obtain ⟨q0, q1, q2, q3, q4, qf⟩ := HL.out.bs.ans
          obtain ⟨r0, r1, r2, r3, r4, rf⟩ := HL.out.box
          go_wp2_with fail
          refine bodyPost_ret (by simp [results, Tryz.results15, go_sem, q0, q1, q2, q3, q4, r0, r1, r2, r3, r4]; try rfl) rfl ?_
          exact HEND.out a b s D f 0 _ HR.out.1 (fun _ => HD0.out.symm) HR.out.2.2 (below_setR HL.out.bs.bel (Nat.le_succ _) a b s D f)
        case pos =>
          have HD0 := Aside0.mk (HDZ.out.1 hd1)
          cases f
          case false =>
            obtain ⟨q0, q1, q2, q3, q4, qf⟩ := HL.out.bs.ans
            obtain ⟨r0, r1, r2, r3, r4, rf⟩ := HL.out.box
            go_wp2_with fail
            refine bodyPost_ret (by simp [results, Tryz.results15, go_sem, q0, q1, q2, q3, q4, r0, r1, r2, r3, r4]; try rfl) rfl ?_
            exact HEND.out a b s D false d _ (Nat.le_refl _) (fun _ => rfl) (resT_any HR.out.2.2 _) (below_setR HL.out.bs.bel (Nat.le_succ _) a b s D false)
          case true =>
            have HS8 := Aside0.mk (show (∀ k, FinS fb tb sb k → W.heap.size + 1 < k) ∧ ¬ FinS fb tb sb rb ∧ (∀ k, vr.ownBlock = some k → ¬ FinS fb tb sb k) from ⟨fun k hk => by have h1 := HFS.out k hk; have h2 := HWC.out.1; have h3 := HL.out.gr; omega, fun hk => by have h1 := HFS.out _ hk; have h2 := HWC.out.1; omega, fun k hk hf => by have h1 := HFS.out k hf; have h2 := HWC.out.2 k hk; omega⟩)
            have HC8 := Aside0.mk (HRT1.out W.heap.size vr fb tb sb c mo wr HL.out.row (fun k hk => ⟨HS8.out.2.2 k hk, Nat.lt_trans (HL.out.own k hk).2 HL.out.box.lt⟩) HCC.out hma hmb (HF.out rfl) (HT.out _ HL.out.bs.bel))
            obtain ⟨c0, c1, c2, c3⟩ := HL.out.bs.box
            obtain ⟨r0, r1, r2, r3, r4, rf⟩ := HL.out.box
            go_wp2_with fail
            refine HC8.out.mono ?_
            rintro e w8 ⟨a2, b2, s2, D2, f2, left', c2', rfl, h1, h2, hfin, hken⟩
            have H8 := Aside0.mk (And.intro (HL.out.ken hken HS8.out.1 HS8.out.2.1 HS8.out.2.2) (And.intro hfin h1))
            have HLF := Aside0.mk (show 1000000 ≤ most → 0 ≤ left' from fun h => by have h3 := HMM.out h; have h4 := HLB1.out; omega)
            clear h1 h2 hfin hken c0 c1 c2 c3 r0 r1 r2 r3 r4 rf HL HC8 HF
            go_upto_region 11 with fail
            have HA := below_alloc (Below.refl w8.heap.size w8) (.cells #[.int .i64 a2, .int .i64 b2, .int .i64 s2, .int .i64 D2, .bool f2] 38)
            have H9 := Aside0.mk (And.intro (And.intro (H8.out.1.below HA) (H8.out.2.1.below HA)) (BoxR.new w8 a2 b2 s2 D2 f2 38))
            have HNE := Aside0.mk (show w8.heap.size ≠ rb from fun e => by have := H8.out.1.box.lt; omega)
            clear HA
            generalize w8.alloc (.cells #[.int .i64 a2, .int .i64 b2, .int .i64 s2, .int .i64 D2, .bool f2] 38) = w9 at *
            generalize w8.heap.size = nb at *
            have f1 := H9.out.1.2.lf
            by_cases hneg : left' < 0
            · have HNM := Aside0.mk (show 1000000 ≤ most → 0 = d from fun h => by have := HLF.out h; omega)
              obtain ⟨q0, q1, q2, q3, q4, qf⟩ := H9.out.1.1.bs.ans
              obtain ⟨r0, r1, r2, r3, r4, rf⟩ := H9.out.1.1.box
              go_wp2_with fail
              refine bodyPost_ret (by simp [results, Tryz.results15, go_sem, q0, q1, q2, q3, q4, r0, r1, r2, r3, r4]; try rfl) rfl ?_
              exact HEND.out a b s D true 0 _ HR.out.1 HNM.out HR.out.2.2 (below_setR H9.out.1.1.bs.bel (Nat.le_succ _) a b s D true)
            · have HRS := Aside0.mk (H8.out.2.2 (by omega))
              obtain ⟨r0, r1, r2, r3, r4, rf⟩ := H9.out.1.1.box
              obtain ⟨m0, m1, m2, m3, m4, mf⟩ := H9.out.2
              have hnn := HNE.out
              go_wp2_with fail
              have HX := Aside0.mk (LiAt.mkput (n := rb) H9.out.1.1.bs H9.out.1.1.row H9.out.1.1.own H9.out.1.1.box (Nat.le_refl _) H9.out.1.1.gr a2 b2 s2 D2 f2)
              go_roundg 0
              case measure => omega
              case rel => exact ⟨1, a2, b2, s2, D2, f2, rfl, by omega, ⟨by rw [HD0.out]; exact Nat.le_refl _, fun _ => HD0.out, by rw [HFF.out.2]; exact HRS.out⟩, HX, ⟨fun h => by omega⟩⟩
end Go.Proofs.YtafmapadkpjliaaGreatDoor.K

/- Walks: the reference's Parse, at texts of two fields: letters, ranks. -/
namespace Go.Proofs.YtafmapadkpjliaaGreatDoor.K
open Go.RowKit Go.Lib Go.Proofs.YtafmapadkpjliaaGreatDoorW.PrintWords Go.Proofs.YtafmapadkpjliaaGreatDoor.Sp
set_option linter.unusedVariables false
set_option linter.unusedSimpArgs false
attribute [local go_sem] cel_get   -- for this text's walks alone
def letterN (x : Nat) : Nat := if x = 69 then 66 else if x = 101 then 98 else if x = 72 then 78 else if x = 104 then 110 else x
theorem letterN_lt {x : Nat} (h : x < 256) : letterN x < 256 := by unfold letterN; (repeat' split) <;> omega
theorem eqK (x k : Nat) : ((x : Int) == (k : Int)) = (x == k) := by rw [Bool.eq_iff_iff, beq_iff_eq, beq_iff_eq]; omega
theorem letter_c (x : Nat) (hx : x < 256) (w : World) : Calls Tryz.prog 87 #[.int .u8 (x : Int)] w fun e w' => e = .returned (.int .u8 (letterN x : Int)) ∧ w' = w := by
  have q1 : ((x : Int) == 69) = (x == 69) := eqK x 69
  have q2 : ((x : Int) == 101) = (x == 101) := eqK x 101
  have q3 : ((x : Int) == 72) = (x == 72) := eqK x 72
  have q4 : ((x : Int) == 104) = (x == 104) := eqK x 104
  cases h1 : (x == 69)
  all_goals cases h2 : (x == 101)
  all_goals cases h3 : (x == 72)
  all_goals cases h4 : (x == 104)
  all_goals
    rw [h1] at q1
    rw [h2] at q2
    rw [h3] at q3
    rw [h4] at q4
    have H := Aside0.mk (And.intro h1 (And.intro h2 (And.intro h3 h4)))
    clear h1 h2 h3 h4 hx
    go_enter Tryz.func87, Tryz.ntmps87
    go_wp2_with fail
    go_ret
    refine ⟨ret_int ?_, rfl⟩
    obtain ⟨h1, h2, h3, h4⟩ := H.out
    clear H q1 q2 q3 q4
    unfold letterN
    simp_all
/-- What one byte of a rank's text stands for. -/
def rkOne (x : Nat) : List Nat := if 49 ≤ letterN x ∧ letterN x ≤ 57 then List.replicate (letterN x - 48) 46 else [letterN x]
def rkTo (s : ByteArray) (n : Nat) : List Nat := (List.range n).flatMap (fun i => rkOne (cel s i))
theorem rkTo_succ (s : ByteArray) (n : Nat) : rkTo s (n + 1) = rkTo s n ++ rkOne (cel s n) := by
  unfold rkTo; rw [List.range_succ, List.flatMap_append]; simp
theorem rkOne_len (x : Nat) : (rkOne x).length ≤ 9 := by
  unfold rkOne; split
  · rw [List.length_replicate]; omega
  · simp
theorem rkTo_len (s : ByteArray) (n : Nat) : (rkTo s n).length ≤ 9 * n := by
  induction n with
  | zero => simp [rkTo]
  | succ n ih => rw [rkTo_succ, List.length_append]; have := rkOne_len (cel s n); omega
def rkOk (s : ByteArray) : Bool := decide (s.size ≤ 9) && ((List.range s.size).all (fun i => decide (49 ≤ letterN (cel s i) ∧ letterN (cel s i) ≤ 57) || decide (0 ≤ sideN (letterN (cel s i)))) && (rkTo s s.size).length == 9)
theorem strB_dot (l : List Nat) : strB l ++ ⟨#[46]⟩ = strB (l ++ [46]) := by
  apply ByteArray.ext
  rw [ByteArray.data_append]
  simp [strB]
set_option maxRecDepth 100000 in
set_option maxHeartbeats 4000000 in
theorem rank4_c (s : ByteArray) (hok : rkOk s = true) (w : World) : Calls Tryz.prog 56 #[.string s] w fun e w' => e = .returned (.tuple #[.string (strB (rkTo s s.size)), .bool true]) ∧ Below w.heap.size w w' := by
  unfold rkOk at hok
  simp only [Bool.and_eq_true, decide_eq_true_eq, List.all_eq_true, Bool.or_eq_true, beq_iff_eq] at hok
  obtain ⟨h9, hall, hlen⟩ := hok
  have HALL := Aside0.mk (fun i (hi : i < s.size) => hall i (List.mem_range.2 hi))
  have HLEN := Aside0.mk hlen
  have h9z : (s.size : Int) ≤ 9 := by omega
  have H9 := Aside0.mk h9
  clear hall hlen h9
  go_enter Tryz.func56, Tryz.ntmps56
  go_wp2_with fail
  go_loopg [4, 5] s.size (fun gg s4 s5 wr => ∃ (i : Nat) (acc : ByteArray), s5 = .int .i64 i ∧ i + gg = s.size ∧ s4 = .string acc ∧ Aside0 (acc = strB (rkTo s i)) ∧ Aside0 (Below w.heap.size w wr))
  case atStart => exact ⟨0, ⟨#[]⟩, rfl, by omega, rfl, ⟨rfl⟩, ⟨Below.refl _ _⟩⟩
  case round =>
    obtain ⟨i, acc, rfl, hi, rfl, HACC, HB⟩ := hrel
    cases gk with
    | zero =>
      have hn : ¬ ((i : Int) < (s.size : Int)) := by omega
      have HI := Aside0.mk (show i = s.size by omega)
      have hsz : acc.size = 9 := by rw [HACC.out, HI.out, strB_size, HLEN.out]
      clear hi
      go_wp2_with fail
      refine bodyPost_ret (v := .tuple #[.string acc, .bool true]) (by simp [results, Tryz.results56, go_sem, hsz]) rfl ?_
      exact ⟨by rw [HACC.out, HI.out], HB.out⟩
    | succ g =>
      have hn : (i : Int) < (s.size : Int) := by omega
      have hil : i < s.size := by omega
      have HI := Aside0.mk (show i + 1 + g = s.size by omega)
      have hx := letterN_lt (cel_lt s i)
      have HL := Aside0.mk (fun W => letter_c (cel s i) (cel_lt s i) W)
      have HS := Aside0.mk (fun W => rside_c (letterN (cel s i)) hx W)
      have hcase := HALL.out i hil
      have HST := Aside0.mk (rkTo_succ s i)
      have HAL := Aside0.mk (show acc.size ≤ 81 by rw [HACC.out, strB_size]; have := rkTo_len s i; have := H9.out; omega)
      have HR1 := Aside0.mk (show rkOne (cel s i) = if 49 ≤ letterN (cel s i) ∧ letterN (cel s i) ≤ 57 then List.replicate (letterN (cel s i) - 48) 46 else [letterN (cel s i)] from rfl)
      generalize rkOne (cel s i) = ro at *
      clear hi
      generalize letterN (cel s i) = x at *
      generalize rkTo s i = pre at *
      by_cases hd : 49 ≤ x ∧ x ≤ 57
      · have d0 : (49 : Int) ≤ (x : Int) := by omega
        have d1 : (x : Int) ≤ 57 := by omega
        have e1 : ((x : Int) - 48) % 256 = ((x - 48 : Nat) : Int) := by omega
        have HX9 := Aside0.mk (show x - 48 ≤ 9 by omega)
        have HRO := Aside0.mk (show ro = List.replicate (x - 48) 46 by rw [HR1.out, if_pos hd])
        clear hd hcase hx HR1
        generalize hk : x - 48 = kx at *
        clear hk
        go_wp2_with (go_at_call 87; refine (HL.out _).mono ?_; rintro e w1 ⟨rfl, rfl⟩)
        have hk9 : (kx : Int) ≤ 9 := by have := HX9.out; omega
        go_loopg [4, 7] kx (fun gg s4 s7 wr' => ∃ (j : Nat) (ac2 : ByteArray), s7 = .int .i64 j ∧ j + gg = kx ∧ s4 = .string ac2 ∧ Aside0 (ac2 = strB (pre ++ List.replicate j 46)) ∧ Aside0 (ac2.size ≤ 81 + j) ∧ wr' = w1)
        case atStart => exact ⟨0, acc, rfl, by omega, rfl, ⟨by rw [HACC.out]; simp⟩, ⟨HAL.out⟩, rfl⟩
        case round =>
          obtain ⟨j, ac2, rfl, hj, rfl, HA2, HZ2, rfl⟩ := hrel
          cases gk with
          | zero =>
            have hjn : ¬ ((j : Int) < (kx : Int)) := by omega
            have HJ := Aside0.mk (show j = kx by omega)
            clear hj
            go_wp2_with fail
            go_roundg g
            case measure => omega
            case rel => exact ⟨i + 1, ac2, by go_num, by have := HI.out; omega, rfl, ⟨by rw [HST.out, HRO.out, HA2.out, HJ.out]⟩, HB⟩
          | succ g2 =>
            have hjn : (j : Int) < (kx : Int) := by omega
            have HJ := Aside0.mk (show j + 1 + g2 = kx by omega)
            have hz2 : ac2.size ≤ 90 := by have := HZ2.out; have := HX9.out; omega
            have hz3 : (ac2 ++ ⟨#[46]⟩).size ≤ 81 + (j + 1) := by rw [ByteArray.size_append]; have := HZ2.out; show ac2.size + 1 ≤ _; omega
            have HZ3 := Aside0.mk hz3
            clear hj hz3
            go_wp2_with fail
            go_roundg g2
            case measure => omega
            case rel => exact ⟨j + 1, _, by go_num, by have := HJ.out; omega, rfl, ⟨by rw [HA2.out, strB_dot, List.replicate_succ', List.append_assoc]⟩, HZ3, rfl⟩
      · have hs0 : 0 ≤ sideN x := by rcases hcase with h | h; exact absurd h hd; exact h
        have HRO := Aside0.mk (show ro = [x] by rw [HR1.out, if_neg hd])
        have hz2 : acc.size ≤ 90 := by have := HAL.out; omega
        have kc := one_byte x
        have hsn : (strOfNums [(x : Int)]).size = 1 := by simp [strOfNums, ByteArray.size]
        generalize sideN x = sd at *
        have hd1 : (49 : Int) ≤ (x : Int) → ¬ ((x : Int) ≤ 57) := fun h h2 => hd ⟨by omega, by omega⟩
        clear hd hcase hx HR1
        by_cases hd2 : (49 : Int) ≤ (x : Int)
        case' pos => have hd3 : ¬ ((x : Int) ≤ 57) := hd1 hd2
        all_goals
          clear hd1
          go_wp2_with (first | (go_at_call 87; refine (HL.out _).mono ?_; rintro e w1 ⟨rfl, rfl⟩) | (go_at_call 46; refine (HS.out _).mono ?_; rintro e w2 ⟨rfl, rfl⟩) | (simp only [kc]))
          go_roundg g
          case measure => omega
          case rel => exact ⟨i + 1, _, by go_num, by have := HI.out; omega, rfl, ⟨by rw [HST.out, HRO.out, HACC.out, strB_snoc]⟩, ⟨below_new HB.out _⟩⟩
end Go.Proofs.YtafmapadkpjliaaGreatDoor.K

/- Walks: the reference's Cut, cells, Parse, at texts of two fields. -/
namespace Go.Proofs.YtafmapadkpjliaaGreatDoor.K
open Go.RowKit Go.Lib Go.Proofs.YtafmapadkpjliaaGreatDoorW.PrintWords Go.Proofs.YtafmapadkpjliaaGreatDoor.Sp
set_option linter.unusedVariables false
set_option linter.unusedSimpArgs false
attribute [local go_sem] cel_get   -- for this text's walks alone
/-- A row of texts of the call's own, from block B on. -/
def OwnT (W : World) (B : Nat) (v : Value) (l : List ByteArray) : Prop := W.ownsRow B 9 1 v l.length (l.map Value.string)
theorem OwnT.below {W W' : World} {B : Nat} {v : Value} {l : List ByteArray} (h : OwnT W B v l) (hb : Below W.heap.size W W') : OwnT W' B v l := pw_own_below h hb
theorem OwnT.lower {W : World} {B B' : Nat} {v : Value} {l : List ByteArray} (h : OwnT W B v l) (hb : B' ≤ B) : OwnT W B' v l := by
  obtain ⟨h1, h2 | ⟨g, cap, cur, h2, h3, h4⟩⟩ := h
  · exact ⟨h1, .inl h2⟩
  · exact ⟨h1, .inr ⟨g, cap, cur, h2, Nat.le_trans hb h3, h4⟩⟩
/-- Texts in a row, as they are read. -/
structure TxAt (W : World) (v : Value) (l : List ByteArray) : Prop where mk ::
  out : ∃ A cap, v = .slice A l.length cap ∧ (l = [] ∨ ∃ g, A = some ⟨g, 0, none⟩ ∧ g < W.heap.size ∧ ∀ i (h : i < l.length), W.cell? ⟨g, i, none⟩ = some (.string l[i]))
theorem TxAt.below {W W' : World} {v : Value} {l : List ByteArray} (h : TxAt W v l) (hb : Below W.heap.size W W') : TxAt W' v l := by
  obtain ⟨A, cap, hv, h⟩ := h.out
  refine ⟨A, cap, hv, ?_⟩
  rcases h with h | ⟨g, hA, hg, hx⟩
  · exact .inl h
  · exact .inr ⟨g, hA, Nat.lt_of_lt_of_le hg hb.size, fun i hi => (hb.cell (p := ⟨g, i, none⟩) hg).trans (hx i hi)⟩
theorem OwnT.reads {W : World} {B : Nat} {v : Value} {l : List ByteArray} (ho : OwnT W B v l) : TxAt W v l := by
  have ho' : W.ownsRow B 9 1 v l.length (l.map Value.string) := ho
  obtain ⟨hx, ⟨h0, h1⟩ | ⟨g, cap, cur, h0, hb, hg, hn, hc, hs, ht⟩⟩ := ho
  · exact ⟨none, 0, by rw [h0, h1], .inl (List.length_eq_zero_iff.1 h1)⟩
  · refine ⟨_, cap, h0, .inr ⟨g, rfl, blk_lt hg, ?_⟩⟩
    intro i hi
    have hc := ho'.cells (g := g) (by rw [h0]; rfl) i (.string l[i]) (by simp [hi])
    rwa [add_plain] at hc
theorem TxAt.at {W : World} {v : Value} {l : List ByteArray} (h : TxAt W v l) (hl : l ≠ []) : ∃ g cap, v = .slice (some ⟨g, 0, none⟩) l.length cap ∧ g < W.heap.size ∧ ∀ i (h : i < l.length), W.cell? ⟨g, i, none⟩ = some (.string l[i]) := by
  obtain ⟨A, cap, hv, h1 | ⟨g, rfl, h2⟩⟩ := h.out
  · exact absurd h1 hl
  · exact ⟨g, cap, hv, h2⟩
theorem info_string : (Tryz.prog.info? 9).map (fun i => (i.zero, i.size, i.bytes)) = some (some (.string ⟨#[]⟩), 1, 16) := by kernel_rfl
/-- A text cut at a byte: what is done after n bytes; and where the last piece begins. -/
def cutTo (s : ByteArray) (c : Nat) : Nat → List ByteArray × Nat
  | 0 => ([], 0)
  | n + 1 => if cel s n = c then ((cutTo s c n).1 ++ [s.extract (cutTo s c n).2 n], n + 1) else cutTo s c n
def cutS (s : ByteArray) (c : Nat) : List ByteArray := (cutTo s c s.size).1 ++ [s.extract (cutTo s c s.size).2 s.size]
theorem cutTo_le (s : ByteArray) (c n : Nat) : (cutTo s c n).2 ≤ n ∧ (cutTo s c n).1.length ≤ n := by
  induction n with
  | zero => simp [cutTo]
  | succ n ih =>
    unfold cutTo
    split
    · simp; omega
    · omega
structure CtAt (w0 W : World) (v : Value) (l : List ByteArray) : Prop where
  own : OwnT W w0.heap.size v l
  bel : Below w0.heap.size w0 W
theorem CtAt.below {w0 W W' : World} {v : Value} {l : List ByteArray} (h : CtAt w0 W v l) (hb : Below W.heap.size W W') : CtAt w0 W' v l := ⟨h.own.below hb, below_go h.bel hb⟩
theorem CtAt.grown {w0 W W1 : World} {v v1 : Value} {l l1 : List ByteArray} (h : CtAt w0 W v l) (hg : W.grownBy W1 v.ownBlock) (ho : OwnT W1 w0.heap.size v1 l1) : CtAt w0 W1 v1 l1 :=
  ⟨ho, h.bel.grown hg h.bel.size (fun k hk => (World.ownsRow.lt h.own k hk).1)⟩
set_option maxRecDepth 100000 in
set_option maxHeartbeats 4000000 in
theorem cut_c (s : ByteArray) (hs : s.size ≤ 1000) (c : Nat) (hc : c < 256) (w : World) : Calls Tryz.prog 31 #[.string s, .int .u8 (c : Int)] w fun e w' => ∃ v, e = .returned v ∧ OwnT w' w.heap.size v (cutS s c) ∧ Below w.heap.size w w' := by
  obtain ⟨i0, hi0, hx0⟩ := Option.map_eq_some_iff.1 info_string
  simp only [Prod.mk.injEq] at hx0
  have HZ := Aside0.mk (⟨hi0, hx0⟩ : _ ∧ _)
  have HSZ := Aside0.mk hs
  have hsz : (s.size : Int) ≤ 1000 := by omega
  clear hx0 hi0 hs
  go_enter Tryz.func31, Tryz.ntmps31
  go_wp2_with fail
  go_loopg [5, 6, 7] s.size (fun gg s5 s6 s7 wr => ∃ i a : Nat, s7 = .int .i64 i ∧ s6 = .int .i64 a ∧ i + gg = s.size ∧ Aside0 (a = (cutTo s c i).2) ∧ Aside0 (CtAt w wr s5 (cutTo s c i).1))
  case atStart => exact ⟨0, 0, rfl, rfl, by omega, ⟨rfl⟩, ⟨⟨own_nil _ _ _ _, Below.refl _ _⟩⟩⟩
  case round =>
    obtain ⟨i, a, rfl, rfl, hi, HA, HG⟩ := hrel
    have HLE := Aside0.mk (cutTo_le s c i)
    have hai : a ≤ i := by rw [HA.out]; exact HLE.out.1
    cases gk with
    | zero =>
      have hn : ¬ ((i : Int) < (s.size : Int)) := by omega
      have HI := Aside0.mk (show i = s.size by omega)
      have ha0 : (a : Int) ≤ (s.size : Int) := by omega
      have HLN := Aside0.mk (show (cutTo s c i).1.length ≤ 1000 by have := HLE.out.2; have := HI.out; have := HSZ.out; omega)
      have HCS := Aside0.mk (show cutS s c = (cutTo s c i).1 ++ [s.extract a s.size] by unfold cutS; rw [HA.out, HI.out])
      generalize (cutTo s c i).1 = L at *
      clear hi hai
      go_wp2_with (at_builtin; refine hold ?_)
      refine Hold.go ?_
      refine wpList_append_lies _ (by rfl) _ _ _ (by rfl) w.heap.size 9 i0 _ 1 16 Tryz.underlying71 HZ.out.1 HZ.out.2.1 HZ.out.2.2.1 HZ.out.2.2.2 rfl (by omega) _ L.length (L.map Value.string) (by rfl) (HG.out.own.below (below_alloc (Below.refl _ _) _)) ⟨_, 0, none⟩ 1 1 [.string (s.extract a s.size)] (by rfl) (by rfl) (World.news_of_block (cs := #[.string (s.extract a s.size)]) (t := 9) (fr := (0, 0)) (news_own _ _)) (by simp [Value.oneCell']) (by omega) (by have := HLN.out; unfold maxLen; omega) (by have := HLN.out; omega) (by have := HG.out.bel.size; simp; omega) _ rfl ?_
      intro gg cap1 w1 hown1 hgrow hat hlt1
      have HO := Aside0.mk (show CtAt w w1 (.slice (some ⟨gg, 0, none⟩) (L.length + 1) cap1) (L ++ [s.extract a s.size]) from (HG.out.below (below_alloc (Below.refl _ _) _)).grown hgrow (by unfold OwnT; rw [List.map_append, List.length_append]; exact hown1))
      clear hown1 hgrow hat hlt1
      go_wp2_with fail
      go_ret
      exact ⟨_, rfl, by rw [HCS.out]; exact HO.out.own, HO.out.bel⟩
    | succ g =>
      have hn : (i : Int) < (s.size : Int) := by omega
      have hil : i < s.size := by omega
      have HI := Aside0.mk (show i + 1 + g = s.size by omega)
      have hq : (((cel s i : Nat) : Int) == (c : Int)) = (cel s i == c) := eqK _ _
      have HST := Aside0.mk (show cutTo s c (i + 1) = if cel s i = c then ((cutTo s c i).1 ++ [s.extract (cutTo s c i).2 i], i + 1) else cutTo s c i from rfl)
      have HLN := Aside0.mk (show (cutTo s c i).1.length ≤ 1000 by have := HLE.out.2; have := HI.out; have := HSZ.out; omega)
      clear hi
      cases hcc : (cel s i == c)
      case false =>
        rw [hcc] at hq
        have HN := Aside0.mk (show cutTo s c (i + 1) = cutTo s c i by rw [HST.out, if_neg (by simpa using hcc)])
        clear hcc HST
        go_wp2_with fail
        go_roundg g
        case measure => omega
        case rel => exact ⟨i + 1, a, by go_num, rfl, by have := HI.out; omega, ⟨by rw [HN.out]; exact HA.out⟩, ⟨by rw [HN.out]; exact HG.out⟩⟩
      case true =>
        rw [hcc] at hq
        have HN := Aside0.mk (show cutTo s c (i + 1) = ((cutTo s c i).1 ++ [s.extract a i], i + 1) by rw [HST.out, if_pos (by simpa using hcc), HA.out])
        have ha0 : (a : Int) ≤ (i : Int) := by omega
        have hn2 : (i : Int) ≤ (s.size : Int) := by omega
        have hil2 : i ≤ s.size := by omega
        clear hcc HST HA
        generalize (cutTo s c i).1 = L at *
        go_wp2_with (at_builtin; refine hold ?_)
        refine Hold.go ?_
        refine wpList_append_lies _ (by rfl) _ _ _ (by rfl) w.heap.size 9 i0 _ 1 16 Tryz.underlying71 HZ.out.1 HZ.out.2.1 HZ.out.2.2.1 HZ.out.2.2.2 rfl (by omega) _ L.length (L.map Value.string) (by rfl) (HG.out.own.below (below_alloc (Below.refl _ _) _)) ⟨_, 0, none⟩ 1 1 [.string (s.extract a i)] (by rfl) (by rfl) (World.news_of_block (cs := #[.string (s.extract a i)]) (t := 9) (fr := (0, 0)) (news_own _ _)) (by simp [Value.oneCell']) (by omega) (by have := HLN.out; unfold maxLen; omega) (by have := HLN.out; omega) (by have := HG.out.bel.size; simp; omega) _ rfl ?_
        intro gg cap1 w1 hown1 hgrow hat hlt1
        have HO := Aside0.mk (show CtAt w w1 (.slice (some ⟨gg, 0, none⟩) (L.length + 1) cap1) (L ++ [s.extract a i]) from (HG.out.below (below_alloc (Below.refl _ _) _)).grown hgrow (by unfold OwnT; rw [List.map_append, List.length_append]; exact hown1))
        clear hown1 hgrow hat hlt1 HG
        go_wp2_with fail
        go_roundg g
        case measure => omega
        case rel => exact ⟨i + 1, i + 1, by go_num, by go_num, by have := HI.out; omega, ⟨by rw [HN.out]⟩, ⟨by rw [HN.out]; exact HO.out⟩⟩
/-- The squares of a board's text, rank by rank, the last ones first: after m of the ten. -/
def celTo (l : List ByteArray) (m : Nat) : List Nat := (List.range m).flatMap (fun j => rkTo (l.getD (9 - j) ⟨#[]⟩) (l.getD (9 - j) ⟨#[]⟩).size)
theorem celTo_succ (l : List ByteArray) (m : Nat) : celTo l (m + 1) = celTo l m ++ rkTo (l.getD (9 - m) ⟨#[]⟩) (l.getD (9 - m) ⟨#[]⟩).size := by
  unfold celTo; rw [List.range_succ, List.flatMap_append]; simp
theorem strB_append (a b : List Nat) : strB a ++ strB b = strB (a ++ b) := by
  apply ByteArray.ext
  rw [ByteArray.data_append]
  simp [strB]
theorem rkOk_len {s : ByteArray} (h : rkOk s = true) : (rkTo s s.size).length = 9 := by
  unfold rkOk at h
  simp only [Bool.and_eq_true, beq_iff_eq] at h
  exact h.2.2
theorem celTo_len (l : List ByteArray) (hl : l.length = 10) (h : ∀ x ∈ l, rkOk x = true) (m : Nat) (hm : m ≤ 10) : (celTo l m).length = 9 * m := by
  induction m with
  | zero => simp [celTo]
  | succ m ih =>
    rw [celTo_succ, List.length_append, ih (by omega)]
    have hi : 9 - m < l.length := by omega
    have hg : l.getD (9 - m) ⟨#[]⟩ = l[9 - m] := by simp [List.getD_eq_getElem?_getD, hi]
    rw [hg, rkOk_len (h _ (List.getElem_mem hi))]
    omega
set_option maxRecDepth 100000 in
set_option maxHeartbeats 4000000 in
theorem cells4_c (s : ByteArray) (hs : s.size ≤ 1000) (l : List ByteArray) (hcut : cutS s 47 = l) (hl : l.length = 10) (hok : ∀ x ∈ l, rkOk x = true) (w : World) :
    Calls Tryz.prog 32 #[.string s] w fun e w' => e = .returned (.tuple #[.string (strB (celTo l 10)), .bool true]) ∧ Below w.heap.size w w' := by
  have HC := Aside0.mk (fun W => cut_c s hs 47 (by omega) W)
  rw [hcut] at HC
  have HOK := Aside0.mk hok
  have HLN := Aside0.mk (fun m hm => celTo_len l hl hok m hm)
  have HL := Aside0.mk hl
  clear hs hcut hl hok
  go_enter Tryz.func32, Tryz.ntmps32
  go_wp2_with fail
  refine (HC.out _).mono ?_
  rintro e w1 ⟨v, rfl, ho, hb⟩
  have HB := Aside0.mk hb
  have HT := Aside0.mk ho.reads
  clear ho hb
  obtain ⟨g0, cap0, rfl, _, _⟩ := HT.out.at (fun h => by have := HL.out; rw [h] at this; simp at this)
  rw [HL.out]
  go_wp2_with fail
  go_loopg [5, 6, 7, 8] 10 (fun gg s5 s6 _ _ wr => ∃ (m : Nat) (acc : ByteArray), m = gg ∧ m ≤ 10 ∧ s6 = .int .i64 ((m : Int) - 1) ∧ s5 = .string acc ∧ Aside0 (acc = strB (celTo l (10 - m))) ∧ Aside0 (TxAt wr (.slice (some ⟨g0, 0, none⟩) l.length cap0) l) ∧ Aside0 (Below w.heap.size w wr))
  case atStart => exact ⟨10, ⟨#[]⟩, rfl, by omega, rfl, rfl, ⟨rfl⟩, HT, HB⟩
  case round =>
    clear HT HB
    obtain ⟨m, acc, rfl, hm, rfl, rfl, HACC, HT, HB⟩ := hrel
    cases m with
    | zero =>
      have hn : ¬ (0 ≤ ((0 : Nat) : Int) - 1) := by omega
      go_wp2_with fail
      refine bodyPost_ret (v := .tuple #[.string acc, .bool true]) (by simp [results, Tryz.results32, go_sem]) rfl ?_
      exact ⟨by rw [HACC.out], HB.out⟩
    | succ g =>
      have hg : ((g + 1 : Nat) : Int) - 1 = (g : Int) := by omega
      rw [hg]
      have hn : 0 ≤ (g : Int) := by omega
      have hg10 : (g : Int) < 10 := by omega
      have hgl : g < l.length := by rw [HL.out]; omega
      have hx := HT.out
      obtain ⟨g1, cap1, hA, _, hcell⟩ := hx.at (fun h => by rw [h] at hgl; simp at hgl)
      simp only [Value.slice.injEq, Option.some.injEq, Addr.mk.injEq, true_and, and_true] at hA
      obtain ⟨rfl, rfl⟩ := hA
      have c0 := hcell g hgl
      have hrk := HOK.out _ (List.getElem_mem hgl)
      have HR := Aside0.mk (fun W => rank4_c l[g] hrk W)
      have HST := Aside0.mk (show celTo l (10 - g) = celTo l (10 - (g + 1)) ++ rkTo l[g] l[g].size by
        have := celTo_succ l (10 - (g + 1))
        rw [show 10 - (g + 1) + 1 = 10 - g by omega, show 9 - (10 - (g + 1)) = g by omega, show l.getD g ⟨#[]⟩ = l[g] by simp [List.getD_eq_getElem?_getD, hgl]] at this
        exact this)
      have hz1 : acc.size ≤ 90 := by rw [HACC.out, strB_size, HLN.out _ (by omega)]; omega
      have hz2 : (strB (rkTo l[g] l[g].size)).size = 9 := by rw [strB_size, rkOk_len hrk]
      have HG := Aside0.mk hm
      generalize l[g] = lg at *
      generalize hrr : rkTo lg lg.size = rr at *
      have HRR := Aside0.mk hrr
      generalize hsr : strB rr = sr at *
      have HSR := Aside0.mk hsr
      clear hrr hsr hrk hcell hx hgl hg hm
      go_wp2_with fail
      refine (HR.out _).mono ?_
      rintro e w2 ⟨rfl, hb⟩
      have HT2 := Aside0.mk (HT.out.below hb)
      have HB2 := Aside0.mk (below_go HB.out hb)
      clear hb HT HB c0
      go_wp2_with fail
      go_roundg g
      case measure => omega
      case rel => exact ⟨g, _, rfl, by have := HG.out; omega, by first | rfl | rw [show wrap64 ((g : Int) - 1) = (g : Int) - 1 by have := HG.out; unfold wrap64; omega], rfl, ⟨by rw [HST.out, HACC.out, ← HSR.out, strB_append]⟩, HT2, HB2⟩
/-- The result's box. -/
structure ZeAt (w0 W : World) : Prop where
  r0 : W.cell? ⟨w0.heap.size, 0, none⟩ = some (.string ByteArray.empty)
  r1 : W.cell? ⟨w0.heap.size, 1, none⟩ = some (.int .i64 0)
  r2 : W.cell? ⟨w0.heap.size, 2, none⟩ = some (.int .i64 0)
  r3 : W.cell? ⟨w0.heap.size, 3, none⟩ = some (.int .i64 0)
  fr : ∀ k, W.frozen? ⟨w0.heap.size, k, none⟩ = false
  bel : Below w0.heap.size w0 W
  lt : w0.heap.size < W.heap.size
theorem ZeAt.below {w0 W W' : World} (h : ZeAt w0 W) (hb : Below W.heap.size W W') : ZeAt w0 W' :=
  ⟨below_cell hb _ _ _ h.r0, below_cell hb _ _ _ h.r1, below_cell hb _ _ _ h.r2, below_cell hb _ _ _ h.r3, fun k => (hb.frozen (p := ⟨w0.heap.size, k, none⟩) h.lt).trans (h.fr k), below_go h.bel hb, Nat.lt_of_lt_of_le h.lt hb.size⟩
theorem ZeAt.new (w : World) : ZeAt w (w.alloc (.cells #[.string ByteArray.empty, .int .i64 0, .int .i64 0, .int .i64 0] 23)) :=
  ⟨by simp [World.cell?_alloc_at], by simp [World.cell?_alloc_at], by simp [World.cell?_alloc_at], by simp [World.cell?_alloc_at], fun k => World.frozen?_alloc_at _ _ _ k rfl, below_alloc (Below.refl _ _) _, by simp⟩
set_option maxRecDepth 100000 in
set_option maxHeartbeats 4000000 in
theorem parse_c (s : ByteArray) (hs : s.size ≤ 1000) (a : ByteArray) (hcut : cutS s 32 = [a, ⟨#[119]⟩]) (ha : a.size ≤ 1000) (l : List ByteArray) (hcut2 : cutS a 47 = l) (hl : l.length = 10) (hok : l.all rkOk = true) (b : ByteArray) (hb : strB (celTo l 10) = b) (hck : checkP ⟨b, 0, 0, 1⟩ = 0) (w : World) :
    Calls Tryz.prog 20 #[.string s] w fun e w' => e = .returned (.tuple #[posV ⟨b, 0, 0, 1⟩, .int .i64 0]) ∧ Below w.heap.size w w' := by
  have HC := Aside0.mk (fun W => cut_c s hs 32 (by omega) W)
  rw [hcut] at HC
  have HCL := Aside0.mk (fun W => cells4_c a ha l hcut2 hl (List.all_eq_true.1 hok) W)
  rw [hb] at HCL
  have hbd := board_size (argOk_yes (checkP_board hck)).1
  have HCK := Aside0.mk (fun W => rcheck_c ⟨b, 0, 0, 1⟩ (by show b.size ≤ _; rw [show b.size = 90 from hbd]; unfold maxLen; omega) W)
  rw [hck] at HCK
  have hu := Tryz.underlying23
  have hs1 : (s.size : Int) ≤ 1000 := by omega
  have HZ := Aside0.mk (ZeAt.new w)
  clear hs hcut ha hcut2 hl hok hb hck hbd
  go_enter Tryz.func20, Tryz.ntmps20
  go_wp2_with fail
  refine (HC.out _).mono ?_
  rintro e w1 ⟨v, rfl, ho, hb⟩
  have HZ1 := Aside0.mk ((HZ.out.below (below_alloc (Below.refl _ _) _)).below hb)
  have HT := Aside0.mk ho.reads
  clear ho hb HZ
  obtain ⟨g0, cap0, rfl, _, hc⟩ := HT.out.at (by simp)
  have c0 : w1.cell? ⟨g0, 0, none⟩ = some (.string a) := hc 0 (by simp)
  clear hc
  go_wp2_with fail
  refine (HCL.out _).mono ?_
  rintro e w2 ⟨rfl, hb⟩
  have HZ2 := Aside0.mk ((HZ1.out.below hb).below (below_alloc (Below.refl _ _) (.cells #[.string b, .int .i64 0, .int .i64 0, .int .i64 1] 23)))
  have HT2 := Aside0.mk ((HT.out.below hb).below (below_alloc (Below.refl _ _) (.cells #[.string b, .int .i64 0, .int .i64 0, .int .i64 1] 23)))
  have HQ := Aside0.mk (BoxP.new w2 ⟨b, 0, 0, 1⟩)
  have hn2 : w2.heap.size ≠ w.heap.size := World.new_ne w2 _ (HZ1.out.below hb).r0
  clear hb HT HZ1 c0
  go_upto_region 9 with fail
  generalize w2.heap.size = qb at *
  generalize (w2.alloc (.cells #[.string b, .int .i64 0, .int .i64 0, .int .i64 1] 23)) = w3 at *
  obtain ⟨g1, cap1, hA, _, hc⟩ := HT2.out.at (by simp)
  simp only [Value.slice.injEq, Option.some.injEq, Addr.mk.injEq, true_and, and_true] at hA
  obtain ⟨rfl, rfl⟩ := hA
  have c1 : w3.cell? ⟨g0, 1, none⟩ = some (.string ⟨#[119]⟩) := hc 1 (by simp)
  obtain ⟨q0, q1, q2, q3⟩ := HQ.out
  clear hc
  go_wp2_with fail
  refine (HCK.out _).mono ?_
  rintro e w4 ⟨rfl, hb⟩
  have HZ4 := Aside0.mk (HZ2.out.below hb)
  clear q0 q1 q2 q3
  obtain ⟨q0, q1, q2, q3⟩ := HQ.out.below hb
  clear hb HZ2 HT2 c1
  have fr := HZ4.out.fr
  have r0 := HZ4.out.r0
  have r1 := HZ4.out.r1
  have r2 := HZ4.out.r2
  have r3 := HZ4.out.r3
  go_wp2_with fail
  refine bodyPost_ret (by simp [results, Tryz.results20, go_sem, r0, r1, r2, r3]; try rfl) rfl ?_
  exact ⟨rfl, by (repeat' (first | (with_reducible exact Below.refl _ _) | (with_reducible refine pw_below_drewN ?_ _) | (with_reducible refine below_alloc ?_ _) | (with_reducible refine Below.drew ?_) | (with_reducible refine Below.setCell ?_ ?_ _) | (simp; done))) <;> first | exact HZ4.out.bel | (simp; done) | (simp; omega)⟩
end Go.Proofs.YtafmapadkpjliaaGreatDoor.K

/- The pseudo laws' live: some answers, by the contracts and the kernel's reckoning. -/
namespace Go.Proofs.YtafmapadkpjliaaGreatDoor.K
open Go.RowKit Go.Lib Go.Proofs.YtafmapadkpjliaaGreatDoorW.PrintWords Go.Proofs.YtafmapadkpjliaaGreatDoor.Sp
set_option linter.unusedVariables false
set_option linter.unusedSimpArgs false
abbrev startB : ByteArray := ⟨#[82, 78, 66, 65, 75, 65, 66, 78, 82, 46, 46, 46, 46, 46, 46, 46, 46, 46, 46, 67, 46, 46, 46, 46, 46, 67, 46, 80, 46, 80, 46, 80, 46, 80, 46, 80, 46, 46, 46, 46, 46, 46, 46, 46, 46, 46, 46, 46, 46, 46, 46, 46, 46, 46, 112, 46, 112, 46, 112, 46, 112, 46, 112, 46, 99, 46, 46, 46, 46, 46, 99, 46, 46, 46, 46, 46, 46, 46, 46, 46, 46, 114, 110, 98, 97, 107, 97, 98, 110, 114]⟩
abbrev startP : Pos := ⟨startB, 0, 0, 1⟩
theorem start_moves : (gathP startP (fun _ => true)).length = 44 ∧ (gathP startP (fun _ => true))[0]? = some (0, 9) ∧ (gathP startP (fun x => x != 46)).length = 2 := by decide +kernel
theorem start_apply : (applyP startP ⟨19, 82⟩).1.side = 1 ∧ (applyP startP ⟨19, 82⟩).1.clock = 0 ∧ (applyP startP ⟨19, 82⟩).1.full = 1 ∧ (applyP startP ⟨19, 82⟩).2 = (110, 0) ∧ (applyP startP ⟨0, 90⟩).2.2 = 7 ∧ (applyP zeroP ⟨0, 0⟩).2.2 = 1 := by decide +kernel
end Go.Proofs.YtafmapadkpjliaaGreatDoor.K

/- The texts and boards of the laws' live: read, and as numbers. -/
namespace Go.Proofs.YtafmapadkpjliaaGreatDoor.K
open Go.RowKit Go.Lib Go.Proofs.YtafmapadkpjliaaGreatDoorW.PrintWords Go.Proofs.YtafmapadkpjliaaGreatDoor.Sp
set_option linter.unusedVariables false
set_option linter.unusedSimpArgs false
abbrev mateT : ByteArray := ⟨#[51, 107, 53, 47, 57, 47, 57, 47, 57, 47, 57, 47, 57, 47, 57, 47, 57, 47, 51, 114, 53, 47, 114, 51, 75, 52, 32, 119]⟩
abbrev mateF : ByteArray := ⟨#[51, 107, 53, 47, 57, 47, 57, 47, 57, 47, 57, 47, 57, 47, 57, 47, 57, 47, 51, 114, 53, 47, 114, 51, 75, 52]⟩
abbrev mateB : ByteArray := ⟨#[114, 46, 46, 46, 75, 46, 46, 46, 46, 46, 46, 46, 114, 46, 46, 46, 46, 46, 46, 46, 46, 46, 46, 46, 46, 46, 46, 46, 46, 46, 46, 46, 46, 46, 46, 46, 46, 46, 46, 46, 46, 46, 46, 46, 46, 46, 46, 46, 46, 46, 46, 46, 46, 46, 46, 46, 46, 46, 46, 46, 46, 46, 46, 46, 46, 46, 46, 46, 46, 46, 46, 46, 46, 46, 46, 46, 46, 46, 46, 46, 46, 46, 46, 46, 107, 46, 46, 46, 46, 46]⟩
abbrev mateP : Pos := ⟨mateB, 0, 0, 1⟩
theorem mate_parts : cutS mateT 32 = [mateF, ⟨#[119]⟩] ∧ (cutS mateF 47).length = 10 ∧ (cutS mateF 47).all rkOk = true ∧ strB (celTo (cutS mateF 47) 10) = mateB ∧ checkP mateP = 0 := by decide +kernel
theorem mate_parse (w : World) : Calls Tryz.prog 20 #[.string mateT] w fun e w' => e = .returned (.tuple #[posV mateP, .int .i64 0]) ∧ Below w.heap.size w w' := by
  obtain ⟨h1, h2, h3, h4, h5⟩ := mate_parts
  exact parse_c mateT (by decide) mateF h1 (by decide) _ rfl h2 h3 _ h4 h5 w
abbrev staleT : ByteArray := ⟨#[53, 107, 51, 47, 57, 47, 57, 47, 57, 47, 57, 47, 57, 47, 57, 47, 57, 47, 51, 114, 53, 47, 52, 75, 52, 32, 119]⟩
abbrev staleF : ByteArray := ⟨#[53, 107, 51, 47, 57, 47, 57, 47, 57, 47, 57, 47, 57, 47, 57, 47, 57, 47, 51, 114, 53, 47, 52, 75, 52]⟩
abbrev staleB : ByteArray := ⟨#[46, 46, 46, 46, 75, 46, 46, 46, 46, 46, 46, 46, 114, 46, 46, 46, 46, 46, 46, 46, 46, 46, 46, 46, 46, 46, 46, 46, 46, 46, 46, 46, 46, 46, 46, 46, 46, 46, 46, 46, 46, 46, 46, 46, 46, 46, 46, 46, 46, 46, 46, 46, 46, 46, 46, 46, 46, 46, 46, 46, 46, 46, 46, 46, 46, 46, 46, 46, 46, 46, 46, 46, 46, 46, 46, 46, 46, 46, 46, 46, 46, 46, 46, 46, 46, 46, 107, 46, 46, 46]⟩
abbrev staleP : Pos := ⟨staleB, 0, 0, 1⟩
theorem stale_parts : cutS staleT 32 = [staleF, ⟨#[119]⟩] ∧ (cutS staleF 47).length = 10 ∧ (cutS staleF 47).all rkOk = true ∧ strB (celTo (cutS staleF 47) 10) = staleB ∧ checkP staleP = 0 := by decide +kernel
theorem stale_parse (w : World) : Calls Tryz.prog 20 #[.string staleT] w fun e w' => e = .returned (.tuple #[posV staleP, .int .i64 0]) ∧ Below w.heap.size w w' := by
  obtain ⟨h1, h2, h3, h4, h5⟩ := stale_parts
  exact parse_c staleT (by decide) staleF h1 (by decide) _ rfl h2 h3 _ h4 h5 w
abbrev startN : Nat := 1868396417696219742832486546452904002272599990723053606518375936556489058356868476713422886370221736333484869
abbrev mateN : Nat := 1119872371088902105278721140284222139060822748617324767449994550481895935590080472690442124335524151308
abbrev staleN : Nat := 286687326998758938951352611912760867599570623646035140467198604923365359511060601008752322516465431412736
theorem start_on : OnB startB (celQ startN) := ⟨by decide +kernel, by
  have h : ∀ n : Fin 90, cel startB n.1 = celQ startN n.1 := by decide +kernel
  exact fun n hn => h ⟨n, hn⟩⟩
theorem mate_on : OnB mateB (celQ mateN) := ⟨by decide +kernel, by
  have h : ∀ n : Fin 90, cel mateB n.1 = celQ mateN n.1 := by decide +kernel
  exact fun n hn => h ⟨n, hn⟩⟩
theorem stale_on : OnB staleB (celQ staleN) := ⟨by decide +kernel, by
  have h : ∀ n : Fin 90, cel staleB n.1 = celQ staleN n.1 := by decide +kernel
  exact fun n hn => h ⟨n, hn⟩⟩
theorem start_well : wellS startP = 0 := by decide +kernel
theorem mate_well : wellS mateP = 0 := by decide +kernel
theorem stale_well : wellS staleP = 0 := by decide +kernel
def startM : List Mv := [(0, 9), (0, 18), (1, 18), (1, 20), (2, 18), (2, 22), (3, 13), (4, 13), (5, 13), (6, 22), (6, 26), (7, 24), (7, 26), (8, 17), (8, 26), (19, 10), (19, 18), (19, 20), (19, 21), (19, 22), (19, 23), (19, 24), (19, 28), (19, 37), (19, 46), (19, 55), (19, 82), (25, 16), (25, 20), (25, 21), (25, 22), (25, 23), (25, 24), (25, 26), (25, 34), (25, 43), (25, 52), (25, 61), (25, 88), (27, 36), (29, 38), (31, 40), (33, 42), (35, 44)]
theorem start_list : legalL startP = startM := by
  rw [legal_eq start_well, legal_C start_on 0 (.inl rfl)]
  decide +kernel
theorem start_legal : (legalL startP).length = 44 := by rw [start_list]; rfl
end Go.Proofs.YtafmapadkpjliaaGreatDoor.K

/- Plain law of quiet: reckoned by the kernel. -/
namespace Go.Proofs.YtafmapadkpjliaaGreatDoor.K
open Go.RowKit Go.Lib Go.Proofs.YtafmapadkpjliaaGreatDoorW.PrintWords Go.Proofs.YtafmapadkpjliaaGreatDoor.Sp
set_option linter.unusedVariables false
set_option linter.unusedSimpArgs false
def valC (c : Nat → Nat) (a : Int) : Int := sumV (fun n => ownV a (c n) n) 90
theorem val_C {s : ByteArray} {c : Nat → Nat} (h : OnB s c) (a : Int) : valS s a = valC c a :=
  sumV_congr (fun i hi => by rw [h.at_ i hi])
def quietQ : Nat → (Nat → Nat) → Int → Int
  | 0, _, _ => 0
  | k + 1, c, a => if (legalQ c a).isEmpty = true then -10000 else bestF (fun m => - quietQ k (moveC c m.1 m.2) (1 - a)) (valC c a) ((legalQ c a).filter (fun m => c m.2 != 46))
theorem quiet_C : ∀ (k : Nat) {s : ByteArray} {c : Nat → Nat} (h : OnB s c) (a : Int), (a = 0 ∨ a = 1) → quietF k s a = quietQ k c a
  | 0, _, _, _, _, _ => rfl
  | k + 1, s, c, h, a, ha => by
    unfold quietF quietQ
    have e1 := legal_C h a ha
    by_cases he : legalR s a = []
    · rw [if_pos he, if_pos (by rw [← e1, he]; rfl)]
    · rw [if_neg he, if_neg (by rw [← e1]; simpa using he), val_C h, ← e1]
      have e2 : takeL s (legalR s a) = (legalR s a).filter (fun m => c m.2 != 46) := by
        refine List.filter_congr (fun m hm => ?_)
        have h2 := (gathM_mem (Nat.le_refl 90) (List.mem_filter.1 hm).1).2
        rw [h.at_ _ h2]
      rw [← e2]
      refine bestF_congr _ (fun m hm => ?_) _
      have hm2 := (List.mem_filter.1 hm).1
      obtain ⟨h1, h2⟩ := gathM_mem (Nat.le_refl 90) (List.mem_filter.1 hm2).1
      show - quietF k (movedB s m.1 m.2) (1 - a) = - quietQ k (moveC c m.1 m.2) (1 - a)
      rw [quiet_C k (h.moved h1 h2) (1 - a) (by omega)]
theorem quietP_C {p : Pos} {c : Nat → Nat} (h : OnB p.cells c) (ha : p.side = 0 ∨ p.side = 1) (hw : wellS p = 0) {k : Nat} (hk : nP p.cells ≤ k) : quietP p = quietQ (k + 1) c p.side := by
  rw [← quietP_deep hw hk]
  exact quiet_C (k + 1) h p.side ha
end Go.Proofs.YtafmapadkpjliaaGreatDoor.K

/- Quiet's live: the boards, and what they are worth, by the kernel's reckoning. -/
namespace Go.Proofs.YtafmapadkpjliaaGreatDoor.K
open Go.RowKit Go.Lib Go.Proofs.YtafmapadkpjliaaGreatDoorW.PrintWords Go.Proofs.YtafmapadkpjliaaGreatDoor.Sp
set_option linter.unusedVariables false
set_option linter.unusedSimpArgs false
abbrev rookT : ByteArray := ⟨#[52, 107, 52, 47, 57, 47, 57, 47, 57, 47, 57, 47, 110, 55, 82, 47, 57, 47, 57, 47, 57, 47, 51, 75, 53, 32, 119]⟩
abbrev rookF : ByteArray := ⟨#[52, 107, 52, 47, 57, 47, 57, 47, 57, 47, 57, 47, 110, 55, 82, 47, 57, 47, 57, 47, 57, 47, 51, 75, 53]⟩
abbrev rookB : ByteArray := ⟨#[46, 46, 46, 75, 46, 46, 46, 46, 46, 46, 46, 46, 46, 46, 46, 46, 46, 46, 46, 46, 46, 46, 46, 46, 46, 46, 46, 46, 46, 46, 46, 46, 46, 46, 46, 46, 110, 46, 46, 46, 46, 46, 46, 46, 82, 46, 46, 46, 46, 46, 46, 46, 46, 46, 46, 46, 46, 46, 46, 46, 46, 46, 46, 46, 46, 46, 46, 46, 46, 46, 46, 46, 46, 46, 46, 46, 46, 46, 46, 46, 46, 46, 46, 46, 46, 107, 46, 46, 46, 46]⟩
abbrev rookP : Pos := ⟨rookB, 0, 0, 1⟩
theorem rook_parts : cutS rookT 32 = [rookF, ⟨#[119]⟩] ∧ (cutS rookF 47).length = 10 ∧ (cutS rookF 47).all rkOk = true ∧ strB (celTo (cutS rookF 47) 10) = rookB ∧ checkP rookP = 0 := by decide +kernel
theorem rook_parse (w : World) : Calls Tryz.prog 20 #[.string rookT] w fun e w' => e = .returned (.tuple #[posV rookP, .int .i64 0]) ∧ Below w.heap.size w w' := by
  obtain ⟨h1, h2, h3, h4, h5⟩ := rook_parts
  exact parse_c rookT (by decide) rookF h1 (by decide) _ rfl h2 h3 _ h4 h5 w
abbrev rookN : Nat := 17917957937422433684459538244547554224973163977877675184056678706175755789741828927567899934125105090560
theorem rook_on : OnB rookB (celQ rookN) := ⟨by decide +kernel, by
  have h : ∀ n : Fin 90, cel rookB n.1 = celQ rookN n.1 := by decide +kernel
  exact fun n hn => h ⟨n, hn⟩⟩
theorem rook_well : wellS rookP = 0 := by decide +kernel
abbrev bareT : ByteArray := ⟨#[52, 107, 52, 47, 57, 47, 57, 47, 57, 47, 57, 47, 57, 47, 57, 47, 57, 47, 57, 47, 51, 75, 53, 32, 119]⟩
abbrev bareF : ByteArray := ⟨#[52, 107, 52, 47, 57, 47, 57, 47, 57, 47, 57, 47, 57, 47, 57, 47, 57, 47, 57, 47, 51, 75, 53]⟩
abbrev bareB : ByteArray := ⟨#[46, 46, 46, 75, 46, 46, 46, 46, 46, 46, 46, 46, 46, 46, 46, 46, 46, 46, 46, 46, 46, 46, 46, 46, 46, 46, 46, 46, 46, 46, 46, 46, 46, 46, 46, 46, 46, 46, 46, 46, 46, 46, 46, 46, 46, 46, 46, 46, 46, 46, 46, 46, 46, 46, 46, 46, 46, 46, 46, 46, 46, 46, 46, 46, 46, 46, 46, 46, 46, 46, 46, 46, 46, 46, 46, 46, 46, 46, 46, 46, 46, 46, 46, 46, 46, 107, 46, 46, 46, 46]⟩
abbrev bareP : Pos := ⟨bareB, 0, 0, 1⟩
theorem bare_parts : cutS bareT 32 = [bareF, ⟨#[119]⟩] ∧ (cutS bareF 47).length = 10 ∧ (cutS bareF 47).all rkOk = true ∧ strB (celTo (cutS bareF 47) 10) = bareB ∧ checkP bareP = 0 := by decide +kernel
theorem bare_parse (w : World) : Calls Tryz.prog 20 #[.string bareT] w fun e w' => e = .returned (.tuple #[posV bareP, .int .i64 0]) ∧ Below w.heap.size w w' := by
  obtain ⟨h1, h2, h3, h4, h5⟩ := bare_parts
  exact parse_c bareT (by decide) bareF h1 (by decide) _ rfl h2 h3 _ h4 h5 w
abbrev bareN : Nat := 17917957937422433684459538244547554224973163977877196279199912807710334969441287563047019946172856930304
theorem bare_on : OnB bareB (celQ bareN) := ⟨by decide +kernel, by
  have h : ∀ n : Fin 90, cel bareB n.1 = celQ bareN n.1 := by decide +kernel
  exact fun n hn => h ⟨n, hn⟩⟩
theorem bare_well : wellS bareP = 0 := by decide +kernel
theorem zero_well : wellS zeroP ≠ 0 := by decide +kernel
theorem rook_few : nP rookB = 4 := by decide +kernel
theorem bare_few : nP bareB = 2 := by decide +kernel
theorem mate_few : nP mateB = 4 := by decide +kernel
theorem rook_val : valS rookB 0 = 109 := by rw [val_C rook_on]; decide +kernel
theorem rook_quiet : ofQ rookP = 204 := by
  rw [show ofQ rookP = quietP rookP from if_pos rook_well, quietP_C (p := rookP) (k := 4) rook_on (.inl rfl) rook_well (Nat.le_of_eq rook_few)]
  decide +kernel
theorem bare_quiet : ofQ bareP = 0 := by
  rw [show ofQ bareP = quietP bareP from if_pos bare_well, quietP_C (p := bareP) (k := 2) bare_on (.inl rfl) bare_well (Nat.le_of_eq bare_few)]
  decide +kernel
theorem mate_quiet : ofQ mateP = -10000 := by
  rw [show ofQ mateP = quietP mateP from if_pos mate_well, quietP_C (p := mateP) (k := 4) mate_on (.inl rfl) mate_well (Nat.le_of_eq mate_few)]
  decide +kernel
theorem knight_piece : pieceV 110 36 = 95 := by decide
end Go.Proofs.YtafmapadkpjliaaGreatDoor.K

/- search: the facts of the laws' live, by the kernel. -/
namespace Go.Proofs.YtafmapadkpjliaaGreatDoor.K
open Go.RowKit Go.Lib Go.Proofs.YtafmapadkpjliaaGreatDoorW.PrintWords Go.Proofs.YtafmapadkpjliaaGreatDoorW.PrintLast Go.Proofs.YtafmapadkpjliaaGreatDoorW.PrintMore Go.Proofs.YtafmapadkpjliaaGreatDoor.Sp
set_option linter.unusedVariables false
set_option linter.unusedSimpArgs false
/-- What a position of at most four pieces is worth behind one ply, in numbers. -/
def wQ (c : Nat → Nat) (a : Int) : Int := if (legalQ c a).isEmpty = true then -9999 else quietQ 5 c a
theorem live_step {p : Pos} {c : Nat → Nat} (h : OnB p.cells c) (hw : wellS p = 0) (h4 : nP p.cells ≤ 4) (hcl : p.clock = 0) {m : Mv} (hm : m ∈ legalL p) : moveW p 0 0 m = - wQ (moveC c m.1 m.2) (1 - p.side) := by
  obtain ⟨q, cq, e1, e2, e3, e4, e5⟩ := legal_step8 hm
  have hck := step_clock hm e1
  obtain ⟨_, hg, _⟩ := legal_mem.1 hm
  obtain ⟨_, h1, h2, _⟩ := gath_mem hg
  rw [step_worth 0 0 hm e1]
  have hs : q.side = 0 ∨ q.side = 1 := by
    have := (argOk_yes (checkP_parts (well_check e2)).1).2.1
    exact this
  have ho : OnB q.cells (moveC c m.1 m.2) := by rw [e4]; exact h.moved h1 h2
  have hc : ¬ (q.clock = 120 ∧ 0 < 0 + 1) := by
    rw [hck, hcl]
    unfold clockB
    split <;> omega
  congr 1
  rw [← e5]
  unfold wQ
  by_cases hno : legalR q.cells q.side = []
  · rw [if_pos (by rw [← legal_C ho q.side hs, hno]; rfl), worth_none q 0 1 hno]
    rfl
  · rw [if_neg (by rw [← legal_C ho q.side hs]; simpa using hno), worth_leaf q 1 hno hc]
    exact quietP_C ho hs e2 (Nat.le_trans (step_few e3) h4)
theorem rook_legal : legalL rookP = legalQ (celQ rookN) 0 := by rw [legal_eq rook_well, legal_C rook_on 0 (.inl rfl)]
theorem rook_wq : firstB (moveW rookP 0 0) (legalL rookP) = firstB (fun m => - wQ (moveC (celQ rookN) m.1 m.2) 1) (legalQ (celQ rookN) 0) := by
  rw [firstB_congr (g := fun m => - wQ (moveC (celQ rookN) m.1 m.2) 1) (fun m hm => live_step rook_on rook_well (Nat.le_of_eq rook_few) rfl hm), rook_legal]
theorem rook_best : firstB (moveW rookP 0 0) (legalL rookP) = some ((44, 36), 204) := by
  rw [rook_wq]
  decide +kernel
theorem mate_none : legalL mateP = [] := by
  rw [legal_eq mate_well, legal_C mate_on 0 (.inl rfl)]
  decide +kernel
theorem rook_has : hasI ((legalL rookP).map mviOf) ⟨3, 12⟩ = true := by
  rw [show (⟨3, 12⟩ : Mvi) = mviOf (3, 12) from rfl, hasI_mem, rook_legal]
  decide +kernel
theorem rook_has_not : hasI ((legalL rookP).map mviOf) ⟨3, 3⟩ = false := by
  rw [show (⟨3, 3⟩ : Mvi) = mviOf (3, 3) from rfl, hasI_mem, rook_legal]
  decide +kernel
theorem rook_one : begL rookP [⟨3, 12⟩] = [(3, 12)] := by
  rw [show begL rookP [⟨3, 12⟩] = (legalL rookP).filter (fun m => hasI [⟨3, 12⟩] (mviOf m)) from if_neg (by simp), rook_legal]
  decide +kernel
theorem rook_e0 : begE rookP 1 1 [] = 0 := begE_ok rook_well (by omega) (fun j hj => absurd hj (by simp))
theorem rook_e1 : begE rookP 1 1 [⟨3, 12⟩] = 0 := begE_ok rook_well (by omega) (fun j hj => by
  have : j = 0 := by simpa using hj
  subst this
  exact rook_has)
theorem rook_e2 : begE rookP 1 1 [⟨3, 3⟩] = 7 := begE_move rook_well (by omega) 0 (by simp) rook_has_not
theorem rook_e3 : begE rookP 65 0 [] = 1 := begE_arg rook_well (by omega)
theorem mate_e0 : begE mateP 1 1 [] = 0 := begE_ok mate_well (by omega) (fun j hj => absurd hj (by simp))
theorem mate_e1 : begE mateP 3 0 [] = 0 := begE_ok mate_well (by omega) (fun j hj => absurd hj (by simp))
theorem mate_worth : worthS 3 mateP.cells mateP.side mateP.clock 0 = -10000 := by
  rw [worth_none mateP 3 0 (by rw [← legal_eq mate_well]; exact mate_none)]
  rfl
theorem ken_none {W w' : World} (h : Ken (fun _ => False) W w') : Below W.heap.size W w' := h.toBelow (Nat.le_refl _) (fun _ h => h.elim)
theorem best_tells {p : Pos} {d : Nat} {M : List Mvi} {R : Nat → Nat → Prop} {C : Nat} {W w' : World} {e : Ending} {o : Option (Mv × Int)} (ho : firstB (moveW p d 0) (begL p M) = o) (h : BestOk p d M (fun _ => False) R C W e w') : ∃ (a b s D : Int) (f : Bool), e = .returned (.tuple #[resV a b s D f, .int .i64 0]) ∧ resT o ((d : Int) + 1) a b s D f ∧ Below W.heap.size W w' := by
  obtain ⟨a, b, s, D, f, he, h1, h2, _⟩ := h
  rw [ho] at h1
  exact ⟨a, b, s, D, f, he, h1, ken_none h2⟩
theorem lim_tells {p : Pos} {most : Int} {W w' : World} {e : Ending} {o : Option (Mv × Int)} (ho : firstB (moveW p 0 0) (legalL p) = o) (h : LimOk p 0 most W e w') : ∃ (a b s D : Int) (f : Bool), e = .returned (.tuple #[resV a b s D f, .int .i64 0]) ∧ resT o 1 a b s D f ∧ Below W.heap.size W w' := by
  obtain ⟨a, b, s, D, f, dd, he, h0, _, h1, h2⟩ := h
  obtain rfl := Nat.le_zero.1 h0
  rw [ho] at h1
  exact ⟨a, b, s, D, f, he, h1, h2⟩
theorem rook_best0 : firstB (moveW rookP 0 0) (begL rookP []) = some ((44, 36), 204) := by rw [show begL rookP [] = legalL rookP from if_pos rfl, rook_best]
theorem rook_best1 : firstB (moveW rookP 0 0) (begL rookP [⟨3, 12⟩]) = some ((3, 12), moveW rookP 0 0 (3, 12)) := by rw [rook_one]; rfl
theorem mate_best0 : firstB (moveW mateP 0 0) (begL mateP []) = none := by rw [show begL mateP [] = legalL mateP from if_pos rfl, mate_none]; rfl
theorem live_a (W : World) (hT : TabW W) : Calls Tryz.prog 12 #[posV rookP, .int .i64 1, .slice none 0 0, .pointer none] W fun e w' => e = .returned (.tuple #[resV 44 36 204 1 true, .int .i64 0]) ∧ Below W.heap.size W w' := by
  refine (best_ok rookP 0 (by decide) (by show nP rookB ≤ 9; rw [rook_few]; decide) [] (by decide) 0 _ _ _ _ 0 (by decide) W (RowI.nil _ _) hT rook_e0 (find_nil _ W hT)).mono ?_
  intro e w' h
  obtain ⟨a, b, s, D, f, rfl, ⟨rfl, rfl, rfl, rfl, rfl⟩, h2⟩ := best_tells rook_best0 h
  exact ⟨rfl, h2⟩
theorem live_b (W : World) (hT : TabW W) (v : Value) (g : Nat) (hr : RowI W g v [⟨3, 12⟩]) : Calls Tryz.prog 12 #[posV rookP, .int .i64 1, v, .pointer none] W fun e w' => ∃ s : Int, e = .returned (.tuple #[resV 3 12 s 1 true, .int .i64 0]) ∧ Below W.heap.size W w' := by
  refine (best_ok rookP 0 (by decide) (by show nP rookB ≤ 9; rw [rook_few]; decide) [⟨3, 12⟩] (by decide) g _ _ _ _ 0 (by decide) W hr hT rook_e1 (find_nil _ W hT)).mono ?_
  intro e w' h
  obtain ⟨a, b, s, D, f, rfl, ⟨rfl, rfl, _, rfl, rfl⟩, h2⟩ := best_tells rook_best1 h
  exact ⟨s, rfl, h2⟩
theorem live_g (W : World) (hT : TabW W) (v : Value) (g : Nat) (hr : RowI W g v [⟨3, 3⟩]) : Calls Tryz.prog 12 #[posV rookP, .int .i64 1, v, .pointer none] W fun e w' => e = .returned (.tuple #[resV 0 0 0 0 false, .int .i64 7]) ∧ Below W.heap.size W w' := by
  have h := best_no rookP 1 [⟨3, 3⟩] (by decide) g v (.pointer none) W hr hT (by rw [rook_e2]; decide)
  rw [rook_e2] at h
  exact h
theorem live_c (W : World) (hT : TabW W) : Calls Tryz.prog 12 #[posV mateP, .int .i64 1, .slice none 0 0, .pointer none] W fun e w' => e = .returned (.tuple #[resV 0 0 0 0 false, .int .i64 0]) ∧ Below W.heap.size W w' := by
  refine (best_ok mateP 0 (by decide) (by show nP mateB ≤ 9; rw [mate_few]; decide) [] (by decide) 0 _ _ _ _ 0 (by decide) W (RowI.nil _ _) hT mate_e0 (find_nil _ W hT)).mono ?_
  intro e w' h
  obtain ⟨a, b, s, D, f, rfl, ⟨rfl, rfl, rfl, rfl, rfl⟩, h2⟩ := best_tells mate_best0 h
  exact ⟨rfl, h2⟩
theorem live_s (W : World) (hT : TabW W) : Calls Tryz.prog 9 #[posV mateP, .int .i64 3] W fun e w' => e = .returned (.tuple #[.int .i64 (-10000), .int .i64 0]) ∧ Below W.heap.size W w' := by
  have h := score_ok mateP 3 (by decide) (by show nP mateB ≤ 9; rw [mate_few]; decide) W hT mate_e1
  rw [mate_worth] at h
  exact h
theorem live_j (W : World) (hT : TabW W) : Calls Tryz.prog 9 #[posV rookP, .int .i64 65] W fun e w' => e = .returned (.tuple #[.int .i64 0, .int .i64 1]) ∧ Below W.heap.size W w' := by
  have h := score_no rookP 65 W hT (by rw [rook_e3]; decide)
  rw [rook_e3] at h
  exact h
theorem live_d (W : World) (hT : TabW W) : Calls Tryz.prog 15 #[posV rookP, .int .i64 1, .int .i64 1000000] W fun e w' => e = .returned (.tuple #[resV 44 36 204 1 true, .int .i64 0]) ∧ Below W.heap.size W w' := by
  refine (lim_ok rookP 0 (by decide) (by show nP rookB ≤ 9; rw [rook_few]; decide) 1000000 (by decide) (by decide) W hT rook_e0).mono ?_
  intro e w' h
  obtain ⟨a, b, s, D, f, rfl, ⟨rfl, rfl, rfl, rfl, rfl⟩, h2⟩ := lim_tells rook_best h
  exact ⟨rfl, h2⟩
end Go.Proofs.YtafmapadkpjliaaGreatDoor.K

/- search: the laws' live, walked. -/
namespace Go.Proofs.YtafmapadkpjliaaGreatDoor.K
open Go.RowKit Go.Lib Go.Proofs.YtafmapadkpjliaaGreatDoorW.PrintWords Go.Proofs.YtafmapadkpjliaaGreatDoorW.PrintLast Go.Proofs.YtafmapadkpjliaaGreatDoorW.PrintMore Go.Proofs.YtafmapadkpjliaaGreatDoor.Sp
set_option linter.unusedVariables false
set_option linter.unusedSimpArgs false
/-- live's boxes. -/
structure L22 (w0 W : World) (b1 b3 : Nat) : Prop where
  x1 : BoxP W b1 rookP
  x3 : BoxP W b3 mateP
  bel : Below w0.heap.size w0 W
theorem L22.below {w0 W W' : World} {b1 b3 : Nat} (h : L22 w0 W b1 b3) (hb : Below W.heap.size W W') : L22 w0 W' b1 b3 := ⟨h.x1.below hb, h.x3.below hb, below_go h.bel hb⟩
theorem row_one (w : World) (a b : Int) : RowI (w.alloc (.cells #[.int .i64 a, .int .i64 b] 36)) w.heap.size (.slice (some ⟨w.heap.size, 0, none⟩) 1 1) [⟨a, b⟩] :=
  ⟨_, 1, rfl, .inr ⟨0, rfl, fun i hi => by
    have : i = 0 := by simpa using hi
    subst this
    exact ⟨by simp [World.cell?_alloc_at], by simp [World.cell?_alloc_at]⟩⟩⟩
set_option maxRecDepth 100000 in
set_option maxHeartbeats 8000000 in
theorem live22_c (w : World) (hT : TabW w) : Calls Tryz.prog 8 #[] w fun e w' => e = .returned (.bool true) ∧ Below w.heap.size w w' := by
  have HT := Aside0.mk (fun (W : World) (hb : Below w.heap.size w W) => hT.below hb)
  have hu := Tryz.underlying23
  have hu2 := Tryz.underlying36
  have hu3 := Tryz.underlying38
  clear hT
  go_enter Tryz.func8, Tryz.ntmps8
  go_wp2_with fail
  refine (rook_parse _).mono ?_
  rintro e w1 ⟨rfl, hb⟩
  have H1 := Aside0.mk (show Below w.heap.size w (w1.alloc (.cells #[.string rookB, .int .i64 0, .int .i64 0, .int .i64 1] 23)) from below_new hb _)
  have X1 := Aside0.mk (BoxP.new w1 rookP)
  clear hb
  go_upto_region 2 with fail
  generalize w1.heap.size = b1 at *
  generalize (w1.alloc (.cells #[.string rookB, .int .i64 0, .int .i64 0, .int .i64 1] 23)) = w2 at *
  go_wp2_with fail
  refine (mate_parse _).mono ?_
  rintro e w3 ⟨rfl, hb⟩
  have hn := below_alloc (Below.refl w3.heap.size w3) (.cells #[.string mateB, .int .i64 0, .int .i64 0, .int .i64 1] 23)
  have H3 := Aside0.mk (show L22 w (w3.alloc (.cells #[.string mateB, .int .i64 0, .int .i64 0, .int .i64 1] 23)) b1 w3.heap.size from ⟨(X1.out.below hb).below hn, BoxP.new w3 mateP, below_go (below_go H1.out hb) hn⟩)
  clear hb hn H1 X1
  go_upto_region 3 with fail
  generalize w3.heap.size = b3 at *
  generalize (w3.alloc (.cells #[.string mateB, .int .i64 0, .int .i64 0, .int .i64 1] 23)) = w4 at *
  obtain ⟨e0, e1, e2, e3⟩ := H3.out.x1
  go_wp2_with fail
  refine (live_a _ (HT.out _ H3.out.bel)).mono ?_
  rintro e w6 ⟨rfl, hb⟩
  have hbb := hb
  clear hb
  have hn := below_alloc (Below.refl w6.heap.size w6) (.cells #[.int .i64 44, .int .i64 36, .int .i64 204, .int .i64 1, .bool true] 38)
  have Nw7 := Aside0.mk ((H3.out.below hbb).below hn)
  have Rb5 := Aside0.mk (BoxR.new w6 44 36 204 1 true 38)
  clear hbb hn e0 e1 e2 e3 H3 
  go_upto_region 4 with fail
  generalize w6.heap.size = b5 at *
  generalize w6.alloc (.cells #[.int .i64 44, .int .i64 36, .int .i64 204, .int .i64 1, .bool true] 38) = w7 at *
  obtain ⟨e0, e1, e2, e3⟩ := Nw7.out.x1
  have HA := Aside0.mk (below_alloc (Below.refl w7.heap.size w7) (.cells #[.int .i64 3, .int .i64 12] 36))
  go_wp2_with fail
  refine (live_b _ (HT.out _ (below_go Nw7.out.bel HA.out)) _ _ (row_one w7 3 12)).mono ?_
  rintro e w8 ⟨sb, rfl, hb⟩
  have hbb := below_go HA.out hb
  clear HA hb
  have hn := below_alloc (Below.refl w8.heap.size w8) (.cells #[.int .i64 3, .int .i64 12, .int .i64 sb, .int .i64 1, .bool true] 38)
  have Nw9 := Aside0.mk ((Nw7.out.below hbb).below hn)
  have Rb5x := Aside0.mk ((Rb5.out.below hbb).below hn)
  have Rb7 := Aside0.mk (BoxR.new w8 3 12 sb 1 true 38)
  clear hbb hn e0 e1 e2 e3 Nw7 Rb5
  go_upto_region 5 with fail
  generalize w8.heap.size = b7 at *
  generalize w8.alloc (.cells #[.int .i64 3, .int .i64 12, .int .i64 sb, .int .i64 1, .bool true] 38) = w9 at *
  obtain ⟨e0, e1, e2, e3⟩ := Nw9.out.x1
  have HA := Aside0.mk (below_alloc (Below.refl w9.heap.size w9) (.cells #[.int .i64 3, .int .i64 3] 36))
  go_wp2_with fail
  refine (live_g _ (HT.out _ (below_go Nw9.out.bel HA.out)) _ _ (row_one w9 3 3)).mono ?_
  rintro e w10 ⟨rfl, hb⟩
  have hbb := below_go HA.out hb
  clear HA hb
  have hn := below_alloc (Below.refl w10.heap.size w10) (.cells #[.int .i64 0, .int .i64 0, .int .i64 0, .int .i64 0, .bool false] 38)
  have Nw11 := Aside0.mk ((Nw9.out.below hbb).below hn)
  have Rb5xx := Aside0.mk ((Rb5x.out.below hbb).below hn)
  have Rb7x := Aside0.mk ((Rb7.out.below hbb).below hn)
  have Rb9 := Aside0.mk (BoxR.new w10 0 0 0 0 false 38)
  clear hbb hn e0 e1 e2 e3 Nw9 Rb5x Rb7
  go_upto_region 6 with fail
  generalize w10.heap.size = b9 at *
  generalize w10.alloc (.cells #[.int .i64 0, .int .i64 0, .int .i64 0, .int .i64 0, .bool false] 38) = w11 at *
  obtain ⟨e0, e1, e2, e3⟩ := Nw11.out.x3
  go_wp2_with fail
  refine (live_c _ (HT.out _ Nw11.out.bel)).mono ?_
  rintro e w12 ⟨rfl, hb⟩
  have hbb := hb
  clear hb
  have hn := below_alloc (Below.refl w12.heap.size w12) (.cells #[.int .i64 0, .int .i64 0, .int .i64 0, .int .i64 0, .bool false] 38)
  have Nw13 := Aside0.mk ((Nw11.out.below hbb).below hn)
  have Rb5xxx := Aside0.mk ((Rb5xx.out.below hbb).below hn)
  have Rb7xx := Aside0.mk ((Rb7x.out.below hbb).below hn)
  have Rb9x := Aside0.mk ((Rb9.out.below hbb).below hn)
  have Rb11 := Aside0.mk (BoxR.new w12 0 0 0 0 false 38)
  clear hbb hn e0 e1 e2 e3 Nw11 Rb5xx Rb7x Rb9
  go_upto_region 7 with fail
  generalize w12.heap.size = b11 at *
  generalize w12.alloc (.cells #[.int .i64 0, .int .i64 0, .int .i64 0, .int .i64 0, .bool false] 38) = w13 at *
  obtain ⟨e0, e1, e2, e3⟩ := Nw13.out.x3
  go_wp2_with fail
  refine (live_s _ (HT.out _ Nw13.out.bel)).mono ?_
  rintro e w14 ⟨rfl, hb⟩
  have hbb := hb
  clear hb
  have Nw14 := Aside0.mk (Nw13.out.below hbb)
  have Rb5xxxx := Aside0.mk (Rb5xxx.out.below hbb)
  have Rb7xxx := Aside0.mk (Rb7xx.out.below hbb)
  have Rb9xx := Aside0.mk (Rb9x.out.below hbb)
  have Rb11x := Aside0.mk (Rb11.out.below hbb)
  clear hbb e0 e1 e2 e3 Nw13 Rb5xxx Rb7xx Rb9x Rb11
  go_upto_region 8 with fail
  obtain ⟨e0, e1, e2, e3⟩ := Nw14.out.x1
  go_wp2_with fail
  refine (live_j _ (HT.out _ Nw14.out.bel)).mono ?_
  rintro e w15 ⟨rfl, hb⟩
  have hbb := hb
  clear hb
  have Nw15 := Aside0.mk (Nw14.out.below hbb)
  have Rb5xxxxx := Aside0.mk (Rb5xxxx.out.below hbb)
  have Rb7xxxx := Aside0.mk (Rb7xxx.out.below hbb)
  have Rb9xxx := Aside0.mk (Rb9xx.out.below hbb)
  have Rb11xx := Aside0.mk (Rb11x.out.below hbb)
  clear hbb e0 e1 e2 e3 Nw14 Rb5xxxx Rb7xxx Rb9xx Rb11x
  go_upto_region 9 with fail
  obtain ⟨e0, e1, e2, e3⟩ := Nw15.out.x1
  go_wp2_with fail
  refine (live_d _ (HT.out _ Nw15.out.bel)).mono ?_
  rintro e w16 ⟨rfl, hb⟩
  have hbb := hb
  clear hb
  have hn := below_alloc (Below.refl w16.heap.size w16) (.cells #[.int .i64 44, .int .i64 36, .int .i64 204, .int .i64 1, .bool true] 38)
  have Nw17 := Aside0.mk ((Nw15.out.below hbb).below hn)
  have Rb5xxxxxx := Aside0.mk ((Rb5xxxxx.out.below hbb).below hn)
  have Rb7xxxxx := Aside0.mk ((Rb7xxxx.out.below hbb).below hn)
  have Rb9xxxx := Aside0.mk ((Rb9xxx.out.below hbb).below hn)
  have Rb11xxx := Aside0.mk ((Rb11xx.out.below hbb).below hn)
  have Rb17 := Aside0.mk (BoxR.new w16 44 36 204 1 true 38)
  clear hbb hn e0 e1 e2 e3 Nw15 Rb5xxxxx Rb7xxxx Rb9xxx Rb11xx
  go_upto_region 10 with fail
  generalize w16.heap.size = b17 at *
  generalize w16.alloc (.cells #[.int .i64 44, .int .i64 36, .int .i64 204, .int .i64 1, .bool true] 38) = w17 at *
  obtain ⟨b5_0, b5_1, b5_2, b5_3, b5_4, _⟩ := Rb5xxxxxx.out
  obtain ⟨b7_0, b7_1, b7_2, b7_3, b7_4, _⟩ := Rb7xxxxx.out
  obtain ⟨b11_0, b11_1, b11_2, b11_3, b11_4, _⟩ := Rb11xxx.out
  obtain ⟨b17_0, b17_1, b17_2, b17_3, b17_4, _⟩ := Rb17.out
  go_wp2_with fail
  go_ret
  exact ⟨rfl, Nw17.out.bel⟩
end Go.Proofs.YtafmapadkpjliaaGreatDoor.K

/- Walks of the reference's value: Kind, Piece, Of. -/
namespace Go.Proofs.YtafmapadkpjliaaGreatDoor.K
open Go.RowKit Go.Lib Go.Proofs.YtafmapadkpjliaaGreatDoorW.PrintWords Go.Proofs.YtafmapadkpjliaaGreatDoor.Sp
set_option linter.unusedVariables false
set_option linter.unusedSimpArgs false
attribute [local go_sem] cel_get   -- for this text's walks alone
set_option maxRecDepth 100000 in
set_option maxHeartbeats 2000000 in
theorem rvkind_c (x : Nat) (hx : x < 256) (w : World) : Calls Tryz.prog 172 #[.int .u8 (x : Int)] w fun e w' => e = .returned (.int .i64 (kindV (kindN x))) ∧ w' = w := by
  have HK := Aside0.mk (fun W => rkind_c x hx W)
  rcases kindN_opts ⟨x, hx⟩ with h | h | h | h | h | h | h | h
  all_goals
    simp only at h
    simp only [h] at HK
    rw [h]
    clear h
    go_enter Tryz.func172, Tryz.ntmps172
    go_wp2_with (first | (go_at_call 48; refine (HK.out _).mono ?_; rintro e w' ⟨rfl, rfl⟩))
    go_ret
    exact ⟨rfl, rfl⟩
set_option maxRecDepth 100000 in
set_option maxHeartbeats 4000000 in
theorem rpieceV_c (x n : Nat) (hx : x < 256) (hn : n < 90) (w : World) : Calls Tryz.prog 152 #[.int .u8 (x : Int), .int .i64 (n : Int)] w fun e w' => e = .returned (.int .i64 (pieceV x n)) ∧ w' = w := by
  have HF := Aside0.mk (fun W => rfile_c n hn W)
  have HR := Aside0.mk (fun W => rrank_c n hn W)
  have HV := Aside0.mk (fun W => rvkind_c x hx W)
  have HK := Aside0.mk (fun W => rkind_c x hx W)
  have HS := Aside0.mk (fun W => rside_c x hx W)
  have hn0 : (0 : Int) ≤ (n : Int) := by omega
  have hn9 : (n : Int) ≤ 89 := by omega
  rcases side_opts x with hs | hs | hs
  · rw [pieceV_none (by omega)]
    rw [hs] at HS
    go_enter Tryz.func152, Tryz.ntmps152
    go_wp2_with (first | (go_at_call 46; refine (HS.out _).mono ?_; rintro e w' ⟨rfl, rfl⟩))
    go_ret
    exact ⟨rfl, rfl⟩
  all_goals
    have HO := Aside0.mk (fun W => rover_c n hn (sideN x) (by omega) W)
    rw [pieceV_side (by omega)]
    rw [hs] at HS HO ⊢
    have hkv := kindV_le (kindN x)
    have hf0 : ((n % 9 : Nat) : Int) ≤ 8 := by omega
    have hr0 : ((n / 9 : Nat) : Int) ≤ 9 := by omega
    unfold asideN rankN
    rw [hs]
    generalize overN n _ = ov at *
    generalize kindV (kindN x) = kv at *
    rcases kindN_opts ⟨x, hx⟩ with h | h | h | h | h | h | h | h
    all_goals
      simp only at h
      simp only [h] at HK ⊢
      generalize n % 9 = f at *
      generalize n / 9 = r at *
      clear h hs
      cases ov
      all_goals
        go_enter Tryz.func152, Tryz.ntmps152
        go_wp2_with (first | (go_at_call 46; refine (HS.out _).mono ?_; rintro e w' ⟨rfl, rfl⟩) | (go_at_call 89; refine (HF.out _).mono ?_; rintro e w' ⟨rfl, rfl⟩) | (go_at_call 125; refine (HR.out _).mono ?_; rintro e w' ⟨rfl, rfl⟩) | (go_at_call 48; refine (HK.out _).mono ?_; rintro e w' ⟨rfl, rfl⟩) | (go_at_call 172; refine (HV.out _).mono ?_; rintro e w' ⟨rfl, rfl⟩) | (go_at_call 154; refine (HO.out _).mono ?_; rintro e w' ⟨rfl, rfl⟩))
        all_goals
          go_ret
          refine ⟨ret_int ?_, rfl⟩
          first | (simp; done) | (simp; omega) | omega
def sumO (s : ByteArray) (a : Int) (i : Nat) : Int := sumV (fun n => ownV a (cel s n) n) i
theorem sumO_le (s : ByteArray) (a : Int) {i : Nat} (hi : i ≤ 90) : -27000 ≤ sumO s a i ∧ sumO s a i ≤ 27000 := by
  have := sumV_le (f := fun n => ownV a (cel s n) n) (b := 300) (n := i) (fun j hj => ownV_le a _ (by omega))
  unfold sumO
  omega
theorem sumO_next (s : ByteArray) (a : Int) (i : Nat) : sumO s a (i + 1) = sumO s a i + ownV a (cel s i) i := rfl
theorem own_sign {a : Int} (ha : a = 0 ∨ a = 1) (c n : Nat) : (((sideN c == 0) == (a == 0)) = true ∧ ownV a c n = pieceV c n) ∨ (((sideN c == 0) == (a == 0)) = false ∧ ownV a c n = - pieceV c n) := by
  unfold ownV
  rcases ha with rfl | rfl <;> rcases side_opts c with h | h | h <;> rw [h]
  · right; exact ⟨by decide, by rw [if_neg (by decide)]⟩
  · left; exact ⟨by decide, by rw [if_pos rfl]⟩
  · right; exact ⟨by decide, by rw [if_neg (by decide)]⟩
  · left; exact ⟨by decide, by rw [if_neg (by decide), pieceV_none (by omega)]; rfl⟩
  · right; exact ⟨by decide, by rw [if_neg (by decide)]⟩
  · left; exact ⟨by decide, by rw [if_pos rfl]⟩
set_option maxRecDepth 100000 in
set_option maxHeartbeats 4000000 in
theorem rvof_c (p : Pos) (hbd : isBoard p.cells = true) (ha : p.side = 0 ∨ p.side = 1) (w : World) : Calls Tryz.prog 118 #[posV p] w fun e w' => e = .returned (.int .i64 (valS p.cells p.side)) ∧ Below w.heap.size w w' := by
  have HI := fun W => ris_c p.cells (by rw [board_size hbd]; decide) W
  simp only [hbd] at HI
  have HI := Aside0.mk HI
  have HSZ := Aside0.mk (board_size hbd)
  have HS := Aside0.mk (fun (i : Nat) W => rside_c (cel p.cells i) (cel_lt _ _) W)
  have HP := Aside0.mk (fun (i : Nat) (hi : i < 90) W => rpieceV_c (cel p.cells i) i (cel_lt _ _) hi W)
  have HV := Aside0.mk (show valS p.cells p.side = sumO p.cells p.side 90 from rfl)
  have HL := Aside0.mk (fun (i : Nat) (hi : i ≤ 90) => sumO_le p.cells p.side hi)
  have HLP := Aside0.mk (fun (i : Nat) (hi : i < 90) => pieceV_le (cel p.cells i) hi)
  have HN := Aside0.mk (fun (i : Nat) => sumO_next p.cells p.side i)
  have HSG := Aside0.mk (fun (i : Nat) => own_sign ha (cel p.cells i) i)
  have hu := Tryz.underlying23
  have HB0 := Aside0.mk (BoxP.new w p)
  have HL0 := Aside0.mk (below_alloc (Below.refl w.heap.size w) (.cells #[.string p.cells, .int .i64 p.side, .int .i64 p.clock, .int .i64 p.full] 23))
  clear hbd ha
  go_enter Tryz.func118, Tryz.ntmps118
  go_upto_region 1 with fail
  generalize w.alloc (.cells #[.string p.cells, .int .i64 p.side, .int .i64 p.clock, .int .i64 p.full] 23) = W1 at *
  obtain ⟨c0, c1, c2, c3⟩ := HB0.out
  go_wp2_with fail
  refine (HI.out _).mono ?_
  rintro e w1 ⟨rfl, rfl⟩
  clear c0 c1 c2 c3
  go_wp2_with fail
  go_loopg [3, 4] 90 (fun gg s3 s4 wr => ∃ i : Nat, s3 = .int .i64 (sumO p.cells p.side i) ∧ s4 = .int .i64 (i : Int) ∧ i + gg = 90 ∧ Aside0 (BoxP wr w.heap.size p ∧ Below w.heap.size w wr))
  case atStart => exact ⟨0, rfl, rfl, by omega, ⟨HB0.out, HL0.out⟩⟩
  case round =>
    clear HB0 HL0
    obtain ⟨i, rfl, rfl, hi, HO⟩ := hrel
    obtain ⟨c0, c1, c2, c3⟩ := HO.out.1
    have hbx := HL.out i (by omega)
    cases gk with
    | zero =>
      have hn : ¬ (i : Int) < 90 := by omega
      have HR := Aside0.mk (show sumO p.cells p.side i = valS p.cells p.side by rw [show i = 90 by omega]; exact HV.out.symm)
      generalize sumO p.cells p.side i = x at *
      clear hi
      go_wp2_with fail
      go_ret
      exact ⟨ret_int HR.out, HO.out.2⟩
    | succ g =>
      have hn : (i : Int) < 90 := by omega
      have hi9 : i < 90 := by omega
      have hsz : i < p.cells.size := by rw [HSZ.out]; exact hi9
      have hsz2 : (i : Int) < (p.cells.size : Int) := by omega
      have HIN := Aside0.mk (show i + 1 + g = 90 by omega)
      have HSi := Aside0.mk (HS.out i)
      have HPi := Aside0.mk (HP.out i hi9)
      have hv1 := HLP.out i hi9
      have hq := HN.out i
      have hsg := HSG.out i
      generalize ownV p.side (cel p.cells i) i = o at *
      generalize pieceV (cel p.cells i) i = v at *
      generalize sideN (cel p.cells i) = sd at *
      generalize sumO p.cells p.side i = x at *
      clear hi9 hi
      rcases hsg with ⟨hb, ho⟩ | ⟨hb, ho⟩
      all_goals
        have HQ := Aside0.mk (And.intro hq ho)
        clear hq ho
        go_wp2_with fail
        go_quiet ((go_at_call 46; exact Calls.quiet_of_same (HSi.out _)))
        have HO2 := Aside0.mk (show BoxP (wr.drewN nq) w.heap.size p ∧ Below w.heap.size w (wr.drewN nq) from ⟨HO.out.1.below (pw_below_drewN (Below.refl _ _) nq), pw_below_drewN HO.out.2 nq⟩)
        generalize wr.drewN nq = w3 at *
        go_wp2_with (go_at_call 152; refine (HPi.out _).mono ?_; rintro e w4 ⟨rfl, rfl⟩)
        go_roundg g
        case measure => omega
        case rel => exact ⟨i + 1, congrArg (Value.int .i64) (by have := HQ.out.1; have := HQ.out.2; omega), by go_num, HIN.out, HO2⟩
end Go.Proofs.YtafmapadkpjliaaGreatDoor.K

/- Walks of the reference's quiet: of. -/
namespace Go.Proofs.YtafmapadkpjliaaGreatDoor.K
open Go.RowKit Go.Lib Go.Proofs.YtafmapadkpjliaaGreatDoorW.PrintWords Go.Proofs.YtafmapadkpjliaaGreatDoor.Sp
set_option linter.unusedVariables false
set_option linter.unusedSimpArgs false
attribute [local go_sem] cel_get   -- for this text's walks alone
/-- The captures among the first moves. -/
def tkR (s : ByteArray) (l : List Mv) (i : Nat) : List Mv := takeL s (l.take i)
theorem tkR_zero (s : ByteArray) (l : List Mv) : tkR s l 0 = [] := rfl
theorem tkR_all (s : ByteArray) (l : List Mv) : tkR s l l.length = takeL s l := by unfold tkR; rw [List.take_length]
theorem tkR_dot {s : ByteArray} {l : List Mv} {i : Nat} (hi : i < l.length) (h : cel s l[i].2 = 46) : tkR s l (i + 1) = tkR s l i := by
  unfold tkR takeL
  rw [List.take_succ_eq_append_getElem hi, List.filter_append]
  simp [h]
theorem tkR_take {s : ByteArray} {l : List Mv} {i : Nat} (hi : i < l.length) (h : cel s l[i].2 ≠ 46) : tkR s l (i + 1) = tkR s l i ++ [l[i]] := by
  unfold tkR takeL
  rw [List.take_succ_eq_append_getElem hi, List.filter_append]
  simp [h]
theorem tkR_mem {s : ByteArray} {l : List Mv} {i : Nat} {m : Mv} (h : m ∈ tkR s l i) : m ∈ takeL s l := by
  obtain ⟨h1, h2⟩ := List.mem_filter.1 h
  exact List.mem_filter.2 ⟨List.mem_of_mem_take h1, h2⟩
def Rof21 (p : Pos) (W : World) : Prop := Calls Tryz.prog 82 #[.string p.cells, .int .i64 p.side] W fun e w' => e = .returned (.int .i64 (quietP p)) ∧ Below W.heap.size W w'
set_option maxRecDepth 100000 in
set_option maxHeartbeats 8000000 in
theorem rof21_next (p : Pos) (hw : wellS p = 0) (IH : ∀ q : Pos, wellS q = 0 → nP q.cells < nP p.cells → ∀ W : World, Rof21 q W) (W : World) : Rof21 p W := by
  have hck := well_check hw
  obtain ⟨hbd, hsd, _⟩ := argOk_yes (checkP_parts hck).1
  have HOF := Aside0.mk (fun W => rof8_c p.cells hbd p.side W)
  have HSZ := Aside0.mk (board_size hbd)
  unfold Rof21
  by_cases hno : legalR p.cells p.side = []
  · have HR := Aside0.mk (quietP_no hno)
    rw [hno] at HOF
    clear hw IH hck hbd hsd hno HSZ
    go_enter Tryz.func82, Tryz.ntmps82
    go_wp2_with fail
    refine (HOF.out _).mono ?_
    rintro e w2 ⟨v, rfl, ho, hb⟩
    obtain ⟨A, cp, hv⟩ := ho.reads.form
    have hv2 : v = .slice A 0 cp := hv
    clear hv
    subst hv2
    have HB := Aside0.mk hb
    clear ho hb
    go_wp2_with fail
    go_ret
    exact ⟨ret_int HR.out.symm, HB.out⟩
  · obtain ⟨f, hq1, hq2⟩ := quietP_eq hw hno
    have HQ := Aside0.mk hq1
    have HV := Aside0.mk (fun W => rvof_c ⟨p.cells, p.side, 0, 0⟩ hbd hsd W)
    have hv := valS_le p.cells p.side
    have HLN := Aside0.mk (legalR_len p.cells p.side)
    have HLT := Aside0.mk (fun (m : Mv) (hm : m ∈ legalR p.cells p.side) => show m.1 < 90 ∧ m.2 < 90 from gathM_mem (Nat.le_refl _) (List.mem_filter.1 hm).1)
    have HMV := Aside0.mk (fun (x y : Nat) (hx : x < 90) (hy : y < 90) (W : World) => rmoved_c p.cells (board_size hbd) x y hx hy W)
    have HF := Aside0.mk (fun (m : Mv) (hm : m ∈ takeL p.cells (legalR p.cells p.side)) => show ∃ q : Pos, q.cells = movedB p.cells m.1 m.2 ∧ q.side = 1 - p.side ∧ f m = - quietP q ∧ ∀ W, Rof21 q W by
      obtain ⟨q, e1, e2, e3, e4, _⟩ := take_less hw hm
      exact ⟨q, e1, e2, hq2 m hm q e1 e2 e3, IH q e3 (by omega)⟩)
    have HBL := Aside0.mk (fun (i : Nat) => show -30000 ≤ bestF f (valS p.cells p.side) (tkR p.cells (legalR p.cells p.side) i) ∧ bestF f (valS p.cells p.side) (tkR p.cells (legalR p.cells p.side) i) ≤ 30000 from bestF_in _ _ _ _ (fun m hm => by
      obtain ⟨q, _, _, e3, _⟩ := HF.out m (tkR_mem hm)
      have := quietP_le q
      omega) _ (by omega) (by omega))
    have hln0 : ((legalR p.cells p.side).length : Int) ≠ 0 := by
      cases h : legalR p.cells p.side with
      | nil => exact absurd h hno
      | cons x r => simp; omega
    have hlnb : (((legalR p.cells p.side).length : Int) == 0) = false := by simpa using hln0
    have b3 : IntKind.i64.wrap (1 - p.side) = 1 - p.side := by rw [IntKind.wrap_i64]; omega
    generalize hl : legalR p.cells p.side = l at *
    generalize valS p.cells p.side = v0 at *
    clear hw IH hck hbd hsd hno hq1 hq2 hln0 hl
    go_enter Tryz.func82, Tryz.ntmps82
    go_wp2_with fail
    refine (HOF.out _).mono ?_
    rintro e w2 ⟨v, rfl, ho, hb⟩
    have HR : Aside0 (MvAt w2 W.heap.size v l ∧ Below W.heap.size W w2) := ⟨ho.reads, hb⟩
    obtain ⟨A, cp, hv⟩ := ho.reads.form
    subst hv
    clear hb ho
    go_wp2_with fail
    refine (HV.out _).mono ?_
    rintro e w3 ⟨rfl, hb⟩
    have HR3 := Aside0.mk (And.intro (HR.out.1.below hb) (below_go HR.out.2 hb))
    clear hb HR
    go_wp2_with fail
    go_loopg [6, 7] l.length (fun gg s6 s7 wr => ∃ (i : Nat), s6 = .int .i64 (bestF f v0 (tkR p.cells l i)) ∧ s7 = .int .i64 (i : Int) ∧ i + gg = l.length ∧ Aside0 (MvAt wr W.heap.size (.slice A l.length cp) l ∧ Below W.heap.size W wr))
    case atStart => exact ⟨0, rfl, rfl, by omega, HR3⟩
    case round =>
      clear HR3
      obtain ⟨i, rfl, rfl, hi, HR⟩ := hrel
      have hbl := HBL.out i
      cases gk with
      | zero =>
        have hn : ¬ ((i : Int) < (l.length : Int)) := by omega
        have HIE := Aside0.mk (show bestF f v0 (tkR p.cells l i) = quietP p by rw [show i = l.length by omega, tkR_all]; exact HQ.out.symm)
        generalize bestF f v0 (tkR p.cells l i) = x at *
        clear hi
        go_wp2_with fail
        go_ret
        exact ⟨ret_int HIE.out, HR.out.2⟩
      | succ g =>
        have hn : (i : Int) < (l.length : Int) := by omega
        have hil : i < l.length := by omega
        have hib : (i : Int) ≤ 8100 := by have := HLN.out; omega
        have HIN := Aside0.mk (show i + 1 + g = l.length by omega)
        obtain ⟨g1, cap1, hA1, _, hg1, hx1⟩ := HR.out.1.at (fun h => by rw [h] at hil; simp at hil)
        simp only [Value.slice.injEq, true_and] at hA1
        obtain ⟨rfl, rfl⟩ := hA1
        obtain ⟨x0, x1⟩ := hx1 i hil
        obtain ⟨hm1, hm2⟩ := HLT.out l[i] (List.getElem_mem hil)
        have hsz : l[i].2 < p.cells.size := by rw [HSZ.out]; exact hm2
        have hsz2 : (l[i].2 : Int) < (p.cells.size : Int) := by omega
        have HM1 := Aside0.mk (HMV.out l[i].1 l[i].2 hm1 hm2)
        obtain ⟨x, hx⟩ : ∃ x, bestF f v0 (tkR p.cells l i) = x := ⟨_, rfl⟩
        rw [hx] at hbl ⊢
        by_cases hc : cel p.cells l[i].2 = 46
        · have HNX := Aside0.mk (show bestF f v0 (tkR p.cells l (i + 1)) = x by rw [tkR_dot hil hc, hx])
          have hcb : (((cel p.cells l[i].2 : Nat) : Int) != 46) = false := by rw [hc]; rfl
          generalize l[i] = m at *
          obtain ⟨ma, mb⟩ := m
          simp only at x0 x1 hsz hsz2 hcb
          clear hx1 hi hm1 hm2 hil hc hx HM1
          go_wp2_with fail
          go_roundg g
          case measure => omega
          case rel => exact ⟨i + 1, by rw [HNX.out], by go_num, HIN.out, HR⟩
        · obtain ⟨q, e1, e2, e3, e4⟩ := HF.out l[i] (List.mem_filter.2 ⟨List.getElem_mem hil, by simpa using hc⟩)
          have HNX := Aside0.mk (show bestF f v0 (tkR p.cells l (i + 1)) = max x (- quietP q) by rw [tkR_take hil hc, bestF_snoc, hx, e3])
          have hcb : (((cel p.cells l[i].2 : Nat) : Int) != 46) = true := by simpa using (show ((cel p.cells l[i].2 : Nat) : Int) ≠ 46 by omega)
          have hqb := quietP_le q
          unfold Rof21 at e4
          rw [e1, e2] at e4
          have HRC := Aside0.mk e4
          generalize quietP q = r at *
          generalize l[i] = m at *
          obtain ⟨ma, mb⟩ := m
          simp only at x0 x1 hsz hsz2 hcb HM1 HRC
          clear hx1 hi hm1 hm2 hil hc hx e1 e2 e3 e4
          go_wp2_with fail
          refine (HM1.out _).mono ?_
          rintro e w4 ⟨rfl, hb⟩
          have H4 := Aside0.mk (And.intro (HR.out.1.below hb) (below_go HR.out.2 hb))
          clear hb x0 x1
          go_wp2_with fail
          refine (HRC.out _).mono ?_
          rintro e w5 ⟨rfl, hb⟩
          have H5 := Aside0.mk (And.intro (H4.out.1.below hb) (below_go H4.out.2 hb))
          clear hb
          go_wp2_with fail
          go_roundg g
          case measure => omega
          case rel => exact ⟨i + 1, by rw [HNX.out], by go_num, HIN.out, H5⟩
theorem rof21_c : ∀ (k : Nat) (p : Pos), wellS p = 0 → nP p.cells ≤ k → ∀ W : World, Rof21 p W
  | 0, p, hw, hk, W => rof21_next p hw (fun q _ hq => by omega) W
  | k + 1, p, hw, hk, W => rof21_next p hw (fun q hwq hq W => rof21_c k q hwq (by omega) W) W
end Go.Proofs.YtafmapadkpjliaaGreatDoor.K
