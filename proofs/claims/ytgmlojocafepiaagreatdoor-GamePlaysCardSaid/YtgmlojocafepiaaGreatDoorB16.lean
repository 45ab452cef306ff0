/- Walks and plain laws that several statements lean on, joined: no statement of the seat is proved here. -/
import Derived.Deep.RegionHeld3
import Derived.Deep.Cut
import Derived.StillTailTactics
import Derived.Test.YtgmlojocafepiaaGreatDoorB10
import Derived.Test.YtgmlojocafepiaaGreatDoorB11
import Derived.Test.YtgmlojocafepiaaGreatDoorB8
import Derived.Test.YtgmlojocafepiaaGreatDoorB9
import Derived.Test.YtgmlojocafepiaaGreatDoorB7
import Derived.Test.YtgmlojocafepiaaGreatDoorB1
import Derived.Test.YtgmlojocafepiaaGreatDoorB6
import Derived.Test.YtgmlojocafepiaaGreatDoorB12
import Derived.Test.YtgmlojocafepiaaGreatDoorB13

/- The reference's game in memory. -/
namespace Go.Proofs.YtgmlojocafepiaaGreatDoor.K
open Go.RowKit Go.Lib Go.Proofs.YtgmlojocafepiaaGreatDoorW.PrintWords Go.Proofs.YtgmlojocafepiaaGreatDoor.Sp
set_option linter.unusedVariables false
set_option linter.unusedSimpArgs false
def posC (p : Pos) : List Value := [.string p.cells, .int .i64 p.side, .int .i64 p.clock, .int .i64 p.full]
def flatP (l : List Pos) : List Value := l.flatMap posC
theorem flatP_len (l : List Pos) : (flatP l).length = l.length * 4 := by
  induction l with
  | nil => rfl
  | cons x r ih => simp only [flatP, List.flatMap_cons, List.length_append, List.length_cons] at *; simp [posC, ih]; omega
theorem flatP_append (l : List Pos) (x : Pos) : flatP (l ++ [x]) = flatP l ++ posC x := by simp [flatP]
theorem flatP_get (l : List Pos) (i j : Nat) (hi : i < l.length) (hj : j < 4) : (flatP l)[i * 4 + j]? = (posC l[i])[j]? := by
  induction l generalizing i with
  | nil => simp at hi
  | cons x r ih =>
    have hl : (posC x).length = 4 := rfl
    cases i with
    | zero =>
      simp only [flatP, List.flatMap_cons]
      rw [List.getElem?_append_left (by rw [hl]; omega)]
      simp
    | succ i =>
      simp only [flatP, List.flatMap_cons]
      rw [List.getElem?_append_right (by rw [hl]; omega), hl, show (i + 1) * 4 + j - 4 = i * 4 + j by omega]
      exact ih i (by simpa using hi)
theorem flatP_take (l : List Pos) (i : Nat) : (flatP l).take (i * 4) = flatP (l.take i) := by
  induction l generalizing i with
  | nil => simp [flatP]
  | cons x r ih =>
    cases i with
    | zero => simp [flatP]
    | succ i =>
      have := ih i
      simp only [flatP, List.flatMap_cons, List.take_succ_cons] at this ⊢
      rw [← this, show (i + 1) * 4 = i * 4 + 1 + 1 + 1 + 1 by omega]
      simp [posC]
theorem pos_cells {W : World} {B b n cap : Nat} {xs : List Pos} (h : W.ownsRow B 23 4 (.slice (some ⟨b, 0, none⟩) n cap) n (flatP xs)) (i : Nat) (hi : i < xs.length) :
    W.cell? ⟨b, i * 4, none⟩ = some (.string xs[i].cells) ∧ W.cell? ⟨b, i * 4 + 1, none⟩ = some (.int .i64 xs[i].side) ∧ W.cell? ⟨b, i * 4 + 2, none⟩ = some (.int .i64 xs[i].clock) ∧ W.cell? ⟨b, i * 4 + 3, none⟩ = some (.int .i64 xs[i].full) := by
  have key : ∀ j v, j < 4 → (posC xs[i])[j]? = some v → W.cell? ⟨b, i * 4 + j, none⟩ = some v := by
    intro j v hj hv
    have hc := h.cells (g := b) rfl (i * 4 + j) v (by rw [flatP_get xs i j hi hj]; exact hv)
    rwa [add_plain] at hc
  exact ⟨key 0 _ (by omega) rfl, key 1 _ (by omega) rfl, key 2 _ (by omega) rfl, key 3 _ (by omega) rfl⟩
theorem pos_pop {W : World} {base b cap n : Nat} {xs : List Pos} (h : W.ownsRow base 23 4 (.slice (some ⟨b, 0, none⟩) n cap) n (flatP xs)) (i : Nat) (hi : i ≤ n) :
    W.ownsRow base 23 4 (.slice (some ⟨b, 0, none⟩) i cap) i (flatP (xs.take i)) := by
  obtain ⟨hl, h⟩ := h
  have hxl : xs.length = n := by rw [flatP_len] at hl; omega
  refine ⟨by rw [flatP_len, List.length_take]; congr 1; omega, ?_⟩
  rcases h with ⟨h, _⟩ | ⟨g, c, cur, h1, h2, h3, h4, h5, h6, h7⟩
  · cases h
  · injection h1 with a1 a2 a3
    injection a1 with a1
    injection a1 with a1
    subst a1 a3
    refine .inr ⟨b, cap, cur, rfl, h2, h3, by omega, h5, h6, ?_⟩
    rw [← flatP_take, ← h7, List.take_take]
    congr 1
    omega
/-- The reference's game: its block kb, its rows lv and mv; all of them blocks of S. -/
structure KmX (W : World) (S : Nat → Prop) (kb : Nat) (lv mv : Value) (ps : List Pos) (ms : List Mv) : Prop where
  k0 : W.cell? ⟨kb, 0, none⟩ = some lv
  k1 : W.cell? ⟨kb, 1, none⟩ = some mv
  kf : ∀ k, W.frozen? ⟨kb, k, none⟩ = false
  rl : W.ownsRow 0 23 4 lv ps.length (flatP ps)
  rm : W.ownsRow 0 32 2 mv ms.length (flatM ms)
  fl : ∀ k, lv.ownBlock = some k → k ≠ kb ∧ S k ∧ mv.ownBlock ≠ some k
  fm : ∀ k, mv.ownBlock = some k → k ≠ kb ∧ S k
  sk : S kb
theorem KmX.lt {W : World} {S : Nat → Prop} {kb : Nat} {lv mv : Value} {ps : List Pos} {ms : List Mv} (h : KmX W S kb lv mv ps ms) : kb < W.heap.size := World.block_lt_of_cell? W ⟨kb, 0, none⟩ h.k0
theorem KmX.ken {W W' : World} {S T : Nat → Prop} {kb : Nat} {lv mv : Value} {ps : List Pos} {ms : List Mv} (h : KmX W S kb lv mv ps ms) (hk : Ken T W W') (hst : ∀ k, S k → ¬ T k) : KmX W' S kb lv mv ps ms := by
  have n1 := hst kb h.sk
  exact ⟨hk.cell h.k0 n1, hk.cell h.k1 n1, fun k => (hk.free h.lt n1).trans (h.kf k), hk.row h.rl (fun k he => hst k (h.fl k he).2.1), hk.row h.rm (fun k he => hst k (h.fm k he).2), h.fl, h.fm, h.sk⟩
theorem KmX.below {W W' : World} {S : Nat → Prop} {kb : Nat} {lv mv : Value} {ps : List Pos} {ms : List Mv} (h : KmX W S kb lv mv ps ms) (hb : Below W.heap.size W W') : KmX W' S kb lv mv ps ms :=
  h.ken (Ken.of_below hb (fun _ => False)) (fun _ _ hk => hk)
end Go.Proofs.YtgmlojocafepiaaGreatDoor.K

/- The reference's game: New, Now, Unmake. -/
namespace Go.Proofs.YtgmlojocafepiaaGreatDoor.K
open Go.RowKit Go.Lib Go.Proofs.YtgmlojocafepiaaGreatDoorW.PrintWords Go.Proofs.YtgmlojocafepiaaGreatDoor.Sp
set_option linter.unusedVariables false
set_option linter.unusedSimpArgs false
section
variable {W W' : World} {S T : Nat → Prop} {kb : Nat} {lv mv : Value} {ps : List Pos} {ms : List Mv}
theorem KmX.drew (h : KmX W S kb lv mv ps ms) : KmX W.drew S kb lv mv ps ms := h.below (pw_below_drewN (Below.refl _ _) 1)
theorem KmX.mono (h : KmX W S kb lv mv ps ms) (hs : ∀ k, S k → T k) : KmX W T kb lv mv ps ms :=
  ⟨h.k0, h.k1, h.kf, h.rl, h.rm, fun k he => ⟨(h.fl k he).1, hs _ (h.fl k he).2.1, (h.fl k he).2.2⟩, fun k he => ⟨(h.fm k he).1, hs _ (h.fm k he).2⟩, hs _ h.sk⟩
theorem KmX.to (h : KmX W S kb lv mv ps ms) (hs : ∀ k, S k → k < W.heap.size → T k) : KmX W T kb lv mv ps ms :=
  ⟨h.k0, h.k1, h.kf, h.rl, h.rm, fun k he => ⟨(h.fl k he).1, hs _ (h.fl k he).2.1 (own_lt h.rl k he), (h.fl k he).2.2⟩, fun k he => ⟨(h.fm k he).1, hs _ (h.fm k he).2 (own_lt h.rm k he)⟩, hs _ h.sk h.lt⟩
/-- Another row of positions. -/
theorem KmX.setL (h : KmX W S kb lv mv ps ms) (lv2 : Value) (ps2 : List Pos) (hr : W.ownsRow 0 23 4 lv2 ps2.length (flatP ps2)) (hf : ∀ k, lv2.ownBlock = some k → k ≠ kb ∧ S k ∧ mv.ownBlock ≠ some k) : KmX (W.setCell ⟨kb, 0, none⟩ lv2) S kb lv2 mv ps2 ms := by
  have hk : Ken (fun k => k = kb) W (W.setCell ⟨kb, 0, none⟩ lv2) := (Ken.refl (fun k => k = kb) W).setCell (p := ⟨kb, 0, none⟩) (.inl rfl) _
  exact ⟨by simp [go_sem, h.k0], by simp [go_sem, h.k1], fun k => by simp [go_sem, h.kf], hk.row hr (fun k he hg => (hf k he).1 hg), hk.row h.rm (fun k he hg => (h.fm k he).1 hg), hf, h.fm, h.sk⟩
/-- .. of moves. -/
theorem KmX.setM (h : KmX W S kb lv mv ps ms) (mv2 : Value) (ms2 : List Mv) (hr : W.ownsRow 0 32 2 mv2 ms2.length (flatM ms2)) (hf : ∀ k, mv2.ownBlock = some k → k ≠ kb ∧ S k ∧ lv.ownBlock ≠ some k) : KmX (W.setCell ⟨kb, 1, none⟩ mv2) S kb lv mv2 ps ms2 := by
  have hk : Ken (fun k => k = kb) W (W.setCell ⟨kb, 1, none⟩ mv2) := (Ken.refl (fun k => k = kb) W).setCell (p := ⟨kb, 1, none⟩) (.inl rfl) _
  exact ⟨by simp [go_sem, h.k0], by simp [go_sem, h.k1], fun k => by simp [go_sem, h.kf], hk.row h.rl (fun k he hg => (h.fl k he).1 hg), hk.row hr (fun k he hg => (hf k he).1 hg), fun k he => ⟨(h.fl k he).1, (h.fl k he).2.1, fun h2 => (hf k h2).2.2 he⟩, fun k he => ⟨(hf k he).1, (hf k he).2.1⟩, h.sk⟩
end
theorem mov_pop {W : World} {base b cap n : Nat} {xs : List Mv} (h : W.ownsRow base 32 2 (.slice (some ⟨b, 0, none⟩) n cap) n (flatM xs)) (i : Nat) (hi : i ≤ n) :
    W.ownsRow base 32 2 (.slice (some ⟨b, 0, none⟩) i cap) i (flatM (xs.take i)) := by
  obtain ⟨hl, h⟩ := h
  have ht : ∀ (l : List Mv) (i : Nat), (flatM l).take (i * 2) = flatM (l.take i) := by
    intro l
    induction l with
    | nil => intro i; simp [flatM]
    | cons x r ih =>
      intro i
      cases i with
      | zero => simp [flatM]
      | succ i =>
        have := ih i
        simp only [flatM, List.flatMap_cons, List.take_succ_cons] at this ⊢
        rw [← this, show (i + 1) * 2 = i * 2 + 1 + 1 by omega]
        simp [mvC]
  have hfl : ∀ l : List Mv, (flatM l).length = l.length * 2 := by
    intro l
    induction l with
    | nil => rfl
    | cons x r ih => simp only [flatM, List.flatMap_cons, List.length_append, List.length_cons] at *; simp [mvC, ih]; omega
  have hxl : xs.length = n := by rw [hfl] at hl; omega
  refine ⟨by rw [hfl, List.length_take]; congr 1; omega, ?_⟩
  rcases h with ⟨h, _⟩ | ⟨g, c, cur, h1, h2, h3, h4, h5, h6, h7⟩
  · cases h
  · injection h1 with a1 a2 a3
    injection a1 with a1
    injection a1 with a1
    subst a1 a3
    refine .inr ⟨b, cap, cur, rfl, h2, h3, by omega, h5, h6, ?_⟩
    rw [← ht, ← h7, List.take_take]
    congr 1
    omega
set_option maxRecDepth 100000 in
set_option maxHeartbeats 2000000 in
theorem rnow_c {W : World} {S : Nat → Prop} {kb : Nat} {lv mv : Value} {ps : List Pos} {q : Pos} {ms : List Mv} (h : KmX W S kb lv mv (ps ++ [q]) ms) (hl : ps.length ≤ 1024) : Calls Tryz.prog 27 #[.pointer (some ⟨kb, 0, none⟩)] W fun e w' => e = .returned (posV q) ∧ Below W.heap.size W w' := by
  have hu := Tryz.underlying23
  obtain ⟨lb, lcap, rfl, hlt⟩ := row_at h.rl (by simp)
  have hlen : (ps ++ [q]).length = ps.length + 1 := by simp
  obtain ⟨c0, c1, c2, c3⟩ := pos_cells h.rl ps.length (by simp)
  rw [show (ps ++ [q])[ps.length]'(by simp) = q by simp] at c0 c1 c2 c3
  have k0 := h.k0
  rw [hlen] at k0
  have nl := h.lt
  have z1 : IntKind.i64.wrap ((ps.length : Int) + 1 - 1) = ps.length := by rw [IntKind.wrap_i64]; omega
  have z2 : IntKind.i64.wrap (ps.length : Int) = ps.length := by rw [IntKind.wrap_i64]; omega
  have m0 : 0 ≤ (ps.length : Int) := by omega
  have m1 : (ps.length : Int) < (ps.length : Int) + 1 := by omega
  clear h hlen
  go_enter Tryz.func27, Tryz.ntmps27
  go_wp2_with fail
  go_region_held3 (fun V => V.cell? ⟨kb, 0, none⟩ = some (.slice (some ⟨lb, 0, none⟩) (ps.length + 1) lcap) ∧ V.cell? ⟨lb, ps.length * 4, none⟩ = some (.string q.cells) ∧ V.cell? ⟨lb, ps.length * 4 + 1, none⟩ = some (.int .i64 q.side) ∧ V.cell? ⟨lb, ps.length * 4 + 2, none⟩ = some (.int .i64 q.clock) ∧ V.cell? ⟨lb, ps.length * 4 + 3, none⟩ = some (.int .i64 q.full)) (go_keep) (fail)
  all_goals
    go_wp2_with fail
    refine bodyPost_ret (by simp [results, Tryz.results27, go_sem]; try rfl) rfl ?_
    exact ⟨rfl, by (repeat' (first | (with_reducible exact Below.refl _ _) | (with_reducible refine pw_below_drewN ?_ _) | (with_reducible refine below_alloc ?_ _) | (with_reducible refine Below.drew ?_) | (with_reducible refine Below.setCell ?_ ?_ _) | (simp; done)))⟩
theorem runmake_end {W : World} {S : Nat → Prop} {kb : Nat} {lv mv : Value} {ps : List Pos} (h : KmX W S kb lv mv ps []) : Calls Tryz.prog 24 #[.pointer (some ⟨kb, 0, none⟩)] W fun e w' => e = .returned (.int .i64 10) ∧ w' = W := by
  obtain ⟨A, cap, rfl⟩ := row_form h.rm
  have k1 := h.k1
  clear h
  go_enter Tryz.func24, Tryz.ntmps24
  go_wp2_with fail
  go_ret
  exact ⟨rfl, rfl⟩
set_option maxRecDepth 100000 in
set_option maxHeartbeats 4000000 in
theorem runmake_c {W : World} {S : Nat → Prop} {kb : Nat} {lv mv : Value} {ps : List Pos} {q : Pos} {ms : List Mv} {m : Mv} (h : KmX W S kb lv mv (ps ++ [q]) (ms ++ [m])) (hl : ps.length ≤ 1024) (hl2 : ms.length ≤ 1024) : Calls Tryz.prog 24 #[.pointer (some ⟨kb, 0, none⟩)] W fun e w' => ∃ lv' mv', e = .returned (.int .i64 0) ∧ KmX w' S kb lv' mv' ps ms ∧ Ken S W w' := by
  obtain ⟨lb, lcap, rfl, hlt⟩ := row_at h.rl (by simp)
  obtain ⟨mb, mcap, rfl, hmt⟩ := row_at h.rm (by simp)
  have hle : (ps ++ [q]).length = ps.length + 1 := by simp
  have hme : (ms ++ [m]).length = ms.length + 1 := by simp
  have hlc : ps.length + 1 ≤ lcap := by
    obtain ⟨_, ⟨h, _⟩ | ⟨g', cap', cur, h1, _, _, h2, _⟩⟩ := h.rl
    · cases h
    · simp only [Value.slice.injEq] at h1; obtain ⟨_, _, rfl⟩ := h1; simpa using h2
  have hmc : ms.length + 1 ≤ mcap := by
    obtain ⟨_, ⟨h, _⟩ | ⟨g', cap', cur, h1, _, _, h2, _⟩⟩ := h.rm
    · cases h
    · simp only [Value.slice.injEq] at h1; obtain ⟨_, _, rfl⟩ := h1; simpa using h2
  have HX := Aside0.mk h
  have H1 : Aside0 (∀ V : World, KmX V S kb (.slice (some ⟨lb, 0, none⟩) (ps ++ [q]).length lcap) (.slice (some ⟨mb, 0, none⟩) (ms ++ [m]).length mcap) (ps ++ [q]) (ms ++ [m]) → KmX (V.setCell ⟨kb, 0, none⟩ (.slice (some ⟨lb, 0, none⟩) ps.length lcap)) S kb (.slice (some ⟨lb, 0, none⟩) ps.length lcap) (.slice (some ⟨mb, 0, none⟩) (ms ++ [m]).length mcap) ps (ms ++ [m])) := by
    refine ⟨fun V h => h.setL _ ps ?_ (fun k he => h.fl k he)⟩
    have := pos_pop h.rl ps.length (by simp)
    rwa [List.take_left] at this
  have H2 : Aside0 (∀ V : World, KmX V S kb (.slice (some ⟨lb, 0, none⟩) ps.length lcap) (.slice (some ⟨mb, 0, none⟩) (ms ++ [m]).length mcap) ps (ms ++ [m]) → KmX (V.setCell ⟨kb, 1, none⟩ (.slice (some ⟨mb, 0, none⟩) ms.length mcap)) S kb (.slice (some ⟨lb, 0, none⟩) ps.length lcap) (.slice (some ⟨mb, 0, none⟩) ms.length mcap) ps ms) := by
    refine ⟨fun V h => h.setM _ ms ?_ (fun k he => ⟨(h.fm k he).1, (h.fm k he).2, fun h3 => (h.fl k h3).2.2 he⟩)⟩
    have := mov_pop h.rm ms.length (by simp)
    rwa [List.take_left] at this
  have HS := Aside0.mk h.sk
  obtain ⟨k0, k1, kf, _, _, _, _, _⟩ := h
  rw [hle] at k0
  rw [hme] at k1
  have z1 : IntKind.i64.wrap ((ps.length : Int) + 1 - 1) = ps.length := by rw [IntKind.wrap_i64]; omega
  have z2 : IntKind.i64.wrap (ps.length : Int) = ps.length := by rw [IntKind.wrap_i64]; omega
  have m0 : 0 ≤ (ps.length : Int) := by omega
  have m2 : (ps.length : Int) ≤ (lcap : Int) := by omega
  have m3 : (ps.length : Int) + 1 ≤ (lcap : Int) := by omega
  have y1 : IntKind.i64.wrap ((ms.length : Int) + 1 - 1) = ms.length := by rw [IntKind.wrap_i64]; omega
  have y2 : IntKind.i64.wrap (ms.length : Int) = ms.length := by rw [IntKind.wrap_i64]; omega
  have n0 : 0 ≤ (ms.length : Int) := by omega
  have n2 : (ms.length : Int) ≤ (mcap : Int) := by omega
  have n3 : (ms.length : Int) + 1 ≤ (mcap : Int) := by omega
  have n4 : (ms.length : Int) + 1 ≠ 0 := by omega
  clear hlc hmc hlt hmt
  go_enter Tryz.func24, Tryz.ntmps24
  go_wp2_with fail
  go_cut [2] from 9 to 22 (fun s2 wx => s2 = .int .i64 0 ∧ Aside0 (KmX wx S kb (.slice (some ⟨lb, 0, none⟩) ps.length lcap) (.slice (some ⟨mb, 0, none⟩) (ms ++ [m]).length mcap) ps (ms ++ [m]) ∧ Ken S W wx))
  case first =>
    go_still_tail 14, (by kernel_rfl)
    change wpList _ _ _ _ _ W.drew
    have HXD := Aside0.mk HX.out.drew
    have hkd : Ken S W W.drew := Ken.of_below (pw_below_drewN (Below.refl _ _) 1) S
    have HKD := Aside0.mk hkd
    have k0' := HXD.out.k0
    have kf' := HXD.out.kf
    generalize W.drew = W2 at *
    go_wp2_with fail
    go_meet
    exact ⟨rfl, ⟨H1.out _ HXD.out, HKD.out.setCell (p := ⟨kb, 0, none⟩) (.inl HS.out) _⟩⟩
  case rest =>
  obtain ⟨rfl, HQ⟩ := hcut
  clear k0 k1 kf HX H1
  obtain ⟨k0, k1, kf, _, _, _, _, _⟩ := HQ.out.1
  rw [hme] at k1
  go_wp2_with fail
  go_cut [2] from 23 to 36 (fun s2 wx => s2 = .int .i64 0 ∧ Aside0 (KmX wx S kb (.slice (some ⟨lb, 0, none⟩) ps.length lcap) (.slice (some ⟨mb, 0, none⟩) ms.length mcap) ps ms ∧ Ken S W wx))
  case first =>
    go_still_tail 14, (by kernel_rfl)
    change wpList _ _ _ _ _ wc.drew
    have HXD := Aside0.mk HQ.out.1.drew
    have HKD := Aside0.mk (HQ.out.2.below (pw_below_drewN (Below.refl wc.heap.size wc) 1))
    have k1' := HXD.out.k1
    have kf' := HXD.out.kf
    change Aside0 (Ken S W wc.drew) at HKD
    generalize wc.drew = W2 at *
    go_wp2_with fail
    go_meet
    exact ⟨rfl, ⟨H2.out _ HXD.out, HKD.out.setCell (p := ⟨kb, 1, none⟩) (.inl HS.out) _⟩⟩
  case rest =>
  obtain ⟨rfl, HR⟩ := hcut
  clear k0 k1 kf HQ H2
  go_wp2_with fail
  go_ret
  exact ⟨_, _, rfl, HR.out.1, HR.out.2⟩
def KnewIs (p : Pos) (W : World) (e : Ending) (w' : World) : Prop :=
  if wellS p ≠ 0 then e = .returned (.tuple #[.pointer none, .int .i64 (wellS p)]) ∧ Below W.heap.size W w'
  else ∃ kb lv mv, e = .returned (.tuple #[.pointer (some ⟨kb, 0, none⟩), .int .i64 0]) ∧ KmX w' (newIn W w') kb lv mv [p] [] ∧ Below W.heap.size W w'
theorem knew (W : World) (p : Pos) : KmX ((W.alloc (.cells #[.string p.cells, .int .i64 p.side, .int .i64 p.clock, .int .i64 p.full] 23)).alloc (.cells #[.slice (some ⟨W.heap.size, 0, none⟩) 1 1, .slice none 0 0] 51)) (fun k => W.heap.size ≤ k) (W.heap.size + 1) (.slice (some ⟨W.heap.size, 0, none⟩) 1 1) (.slice none 0 0) [p] [] := by
  have hs : (W.alloc (.cells #[.string p.cells, .int .i64 p.side, .int .i64 p.clock, .int .i64 p.full] 23)).heap.size = W.heap.size + 1 := by simp
  refine ⟨?_, ?_, fun k => World.frozen?_alloc_at _ _ _ k hs.symm, ?_, World.ownsRow_nil _ _ _ _, ?_, fun k hk => by simp [Value.ownBlock] at hk, by simp⟩
  · rw [World.cell?_alloc_at _ _ _ _ hs.symm]; rfl
  · rw [World.cell?_alloc_at _ _ _ _ hs.symm]; rfl
  · refine ⟨rfl, .inr ⟨W.heap.size, 1, #[.string p.cells, .int .i64 p.side, .int .i64 p.clock, .int .i64 p.full], rfl, Nat.zero_le _, ?_, by simp, by unfold maxLen; omega, rfl, rfl⟩⟩
    exact ((below_alloc (Below.refl _ _) _).block W.heap.size (by rw [hs]; omega)).trans (heap_alloc_new W _)
  · intro k hk
    obtain rfl : W.heap.size = k := by simpa [Value.ownBlock] using hk
    exact ⟨by omega, Nat.le_refl _, by simp [Value.ownBlock]⟩
set_option maxRecDepth 100000 in
set_option maxHeartbeats 2000000 in
theorem knew_c (p : Pos) (hmx : p.cells.size ≤ maxLen) (W : World) : Calls Tryz.prog 22 #[posV p] W (KnewIs p W) := by
  have hu := Tryz.underlying23
  have HWL := Aside0.mk (fun W' => rwell_c p hmx W')
  have HB0 := Aside0.mk (BoxP.new W p)
  have HL0 := Aside0.mk (below_alloc (Below.refl W.heap.size W) (.cells #[.string p.cells, .int .i64 p.side, .int .i64 p.clock, .int .i64 p.full] 23))
  by_cases hw : wellS p = 0
  case neg =>
    have HR := Aside0.mk (fun (w' : World) (hb : Below W.heap.size W w') => show KnewIs p W (.returned (.tuple #[.pointer none, .int .i64 (wellS p)])) w' by unfold KnewIs; rw [if_pos hw]; exact ⟨rfl, hb⟩)
    generalize hx : wellS p = x at *
    have hn : (x != 0) = true := by simpa using hw
    clear hx hmx
    go_enter Tryz.func22, Tryz.ntmps22
    go_upto_region 1 with fail
    generalize W.alloc (.cells #[.string p.cells, .int .i64 p.side, .int .i64 p.clock, .int .i64 p.full] 23) = W1 at *
    obtain ⟨c0, c1, c2, c3⟩ := HB0.out
    go_wp2_with (go_at_call 17; refine (HWL.out _).mono ?_; rintro e w1 ⟨rfl, hb⟩; have HB1 := Aside0.mk (below_go HL0.out hb); clear hb)
    refine bodyPost_ret (by simp [results, Tryz.results22, go_sem]; try rfl) rfl ?_
    exact HR.out _ HB1.out
  case pos =>
    have HR := Aside0.mk (fun (w' : World) (kb : Nat) (lv mv : Value) (hk : KmX w' (newIn W w') kb lv mv [p] []) (hb : Below W.heap.size W w') => show KnewIs p W (.returned (.tuple #[.pointer (some ⟨kb, 0, none⟩), .int .i64 0])) w' by unfold KnewIs; rw [if_neg (by simpa using hw)]; exact ⟨kb, lv, mv, rfl, hk, hb⟩)
    rw [hw] at HWL
    clear hw hmx
    go_enter Tryz.func22, Tryz.ntmps22
    go_upto_region 1 with fail
    generalize W.alloc (.cells #[.string p.cells, .int .i64 p.side, .int .i64 p.clock, .int .i64 p.full] 23) = W1 at *
    obtain ⟨c0, c1, c2, c3⟩ := HB0.out
    go_wp2_with (go_at_call 17; refine (HWL.out _).mono ?_; rintro e w1 ⟨rfl, hb⟩; have HB1 := Aside0.mk (below_go HL0.out hb); have HX1 := Aside0.mk (HB0.out.below hb); clear hb c0 c1 c2 c3; obtain ⟨c0, c1, c2, c3⟩ := HX1.out)
    refine bodyPost_ret (by simp [results, Tryz.results22, go_sem]; try rfl) rfl ?_
    exact HR.out _ _ _ _ ((knew _ p).to (fun k h1 h2 => ⟨Nat.le_trans HB1.out.size h1, h2⟩)) (below_go HB1.out ((below_alloc (Below.refl _ _) _).trans (below_alloc (Below.refl _ _) _ |>.mono (by simp))))
end Go.Proofs.YtgmlojocafepiaaGreatDoor.K

/- The reference's game: Make. -/
namespace Go.Proofs.YtgmlojocafepiaaGreatDoor.K
open Go.RowKit Go.Lib Go.Proofs.YtgmlojocafepiaaGreatDoorW.PrintWords Go.Proofs.YtgmlojocafepiaaGreatDoor.Sp
set_option linter.unusedVariables false
set_option linter.unusedSimpArgs false
/-- Ahead of a move: the reference's game, the move's box. -/
structure RkAt (W w : World) (S : Nat → Prop) (kb : Nat) (lv mv : Value) (ps : List Pos) (ms : List Mv) (m : Mvi) : Prop where
  km : KmX w S kb lv mv ps ms
  d0 : w.cell? ⟨W.heap.size, 0, none⟩ = some (.int .i64 m.frm)
  d1 : w.cell? ⟨W.heap.size, 1, none⟩ = some (.int .i64 m.dest)
  bel : Below W.heap.size W w
  low : kb < W.heap.size ∧ (∀ k, lv.ownBlock = some k → k < W.heap.size) ∧ (∀ k, mv.ownBlock = some k → k < W.heap.size)
section
variable {W w w' : World} {S : Nat → Prop} {kb : Nat} {lv mv : Value} {ps : List Pos} {ms : List Mv} {m : Mvi}
theorem RkAt.below (h : RkAt W w S kb lv mv ps ms m) (hb : Below w.heap.size w w') : RkAt W w' S kb lv mv ps ms m :=
  ⟨h.km.below hb, below_cell hb _ _ _ h.d0, below_cell hb _ _ _ h.d1, below_go h.bel hb, h.low⟩
theorem RkAt.drew (h : RkAt W w S kb lv mv ps ms m) : RkAt W w.drew S kb lv mv ps ms m := h.below (pw_below_drewN (Below.refl _ _) 1)
theorem RkAt.new (h : KmX W S kb lv mv ps ms) (m : Mvi) : RkAt W (W.alloc (.cells #[.int .i64 m.frm, .int .i64 m.dest] 32)) S kb lv mv ps ms m :=
  ⟨h.below (below_alloc (Below.refl _ _) _), by simp [World.cell?_alloc_at], by simp [World.cell?_alloc_at], below_alloc (Below.refl _ _) _, h.lt, own_lt h.rl, own_lt h.rm⟩
/-- Behind the reference's Make of layer 8: the new position's box too. -/
structure RqAt (W w : World) (S : Nat → Prop) (kb : Nat) (lv mv : Value) (ps : List Pos) (ms : List Mv) (m : Mvi) (q : Pos) (qb : Nat) : Prop where
  km : KmX w S kb lv mv ps ms
  d0 : w.cell? ⟨W.heap.size, 0, none⟩ = some (.int .i64 m.frm)
  d1 : w.cell? ⟨W.heap.size, 1, none⟩ = some (.int .i64 m.dest)
  qx : BoxP w qb q
  ken : Ken S W w
  qge : W.heap.size < qb
  low : kb < W.heap.size
theorem RqAt.mk1 (h : RkAt W w S kb lv mv ps ms m) (q : Pos) : RqAt W (w.alloc (.cells #[.string q.cells, .int .i64 q.side, .int .i64 q.clock, .int .i64 q.full] 23)) S kb lv mv ps ms m q w.heap.size := by
  have h1 := h.below (below_alloc (Below.refl w.heap.size w) (.cells #[.string q.cells, .int .i64 q.side, .int .i64 q.clock, .int .i64 q.full] 23))
  exact ⟨h1.km, h1.d0, h1.d1, BoxP.new w q, Ken.of_below h1.bel S, World.block_lt_of_cell? w ⟨W.heap.size, 0, none⟩ h.d0, h.low.1⟩
theorem RqAt.mk2 {W0 : World} (h : RkAt W W0 S kb lv mv ps ms m) (hb : Below W0.heap.size W0 w) (z0 : w.cell? ⟨W0.heap.size, 0, none⟩ = some (.string { data := #[] })) (z1 : w.cell? ⟨W0.heap.size, 1, none⟩ = some (.int .i64 0)) (z2 : w.cell? ⟨W0.heap.size, 2, none⟩ = some (.int .i64 0)) (z3 : w.cell? ⟨W0.heap.size, 3, none⟩ = some (.int .i64 0)) (q : Pos) :
    RqAt W ((((w.setCell ⟨W0.heap.size, 0, none⟩ (.string q.cells)).setCell ⟨W0.heap.size, 1, none⟩ (.int .i64 q.side)).setCell ⟨W0.heap.size, 2, none⟩ (.int .i64 q.clock)).setCell ⟨W0.heap.size, 3, none⟩ (.int .i64 q.full)) S kb lv mv ps ms m q W0.heap.size := by
  have h1 := h.below (Below.setCell (p := ⟨W0.heap.size, 3, none⟩) (Below.setCell (p := ⟨W0.heap.size, 2, none⟩) (Below.setCell (p := ⟨W0.heap.size, 1, none⟩) (Below.setCell (p := ⟨W0.heap.size, 0, none⟩) hb (Nat.le_refl _) (.string q.cells)) (Nat.le_refl _) (.int .i64 q.side)) (Nat.le_refl _) (.int .i64 q.clock)) (Nat.le_refl _) (.int .i64 q.full))
  exact ⟨h1.km, h1.d0, h1.d1, ⟨by simp [go_sem, z0, z1, z2, z3], by simp [go_sem, z0, z1, z2, z3], by simp [go_sem, z0, z1, z2, z3], by simp [go_sem, z0, z1, z2, z3]⟩, Ken.of_below h1.bel S, World.block_lt_of_cell? W0 ⟨W.heap.size, 0, none⟩ h.d0, h.low.1⟩
theorem zq_below {W0 w w' : World} (hz : w.cell? ⟨W0.heap.size, 0, none⟩ = some (.string { data := #[] }) ∧ w.cell? ⟨W0.heap.size, 1, none⟩ = some (.int .i64 0) ∧ w.cell? ⟨W0.heap.size, 2, none⟩ = some (.int .i64 0) ∧ w.cell? ⟨W0.heap.size, 3, none⟩ = some (.int .i64 0) ∧ (∀ k, w.frozen? ⟨W0.heap.size, k, none⟩ = false) ∧ Below W0.heap.size W0 w) (hb : Below w.heap.size w w') :
    w'.cell? ⟨W0.heap.size, 0, none⟩ = some (.string { data := #[] }) ∧ w'.cell? ⟨W0.heap.size, 1, none⟩ = some (.int .i64 0) ∧ w'.cell? ⟨W0.heap.size, 2, none⟩ = some (.int .i64 0) ∧ w'.cell? ⟨W0.heap.size, 3, none⟩ = some (.int .i64 0) ∧ (∀ k, w'.frozen? ⟨W0.heap.size, k, none⟩ = false) ∧ Below W0.heap.size W0 w' := by
  obtain ⟨z0, z1, z2, z3, zf, hz⟩ := hz
  have hl : W0.heap.size < w.heap.size := World.block_lt_of_cell? w ⟨W0.heap.size, 0, none⟩ z0
  exact ⟨below_cell hb _ _ _ z0, below_cell hb _ _ _ z1, below_cell hb _ _ _ z2, below_cell hb _ _ _ z3, fun k => (hb.frozen (p := ⟨W0.heap.size, k, none⟩) hl).trans (zf k), below_go hz hb⟩
end
section
variable {W w w' : World} {S T : Nat → Prop} {kb qb : Nat} {lv mv : Value} {ps : List Pos} {ms : List Mv} {m : Mvi} {q : Pos}
theorem RqAt.mono (h : RqAt W w S kb lv mv ps ms m q qb) (hs : ∀ k, S k → T k) : RqAt W w T kb lv mv ps ms m q qb :=
  ⟨h.km.mono hs, h.d0, h.d1, h.qx, h.ken.mono hs, h.qge, h.low⟩
theorem RqAt.below (h : RqAt W w S kb lv mv ps ms m q qb) (hb : Below w.heap.size w w') : RqAt W w' S kb lv mv ps ms m q qb :=
  ⟨h.km.below hb, below_cell hb _ _ _ h.d0, below_cell hb _ _ _ h.d1, ⟨below_cell hb _ _ _ h.qx.c0, below_cell hb _ _ _ h.qx.c1, below_cell hb _ _ _ h.qx.c2, below_cell hb _ _ _ h.qx.c3⟩, h.ken.below hb, h.qge, h.low⟩
theorem RqAt.drew (h : RqAt W w S kb lv mv ps ms m q qb) : RqAt W w.drew S kb lv mv ps ms m q qb := h.below (pw_below_drewN (Below.refl _ _) 1)
/-- What is read is still there behind the row of positions. -/
theorem RqAt.grewL (h : RqAt W w S kb lv mv ps ms m q qb) (hold : ∀ k, lv.ownBlock = some k → k < W.heap.size) (o : Obj) (hg : (w.alloc o).drew.grownBy w' lv.ownBlock) :
    w'.cell? ⟨kb, 0, none⟩ = some lv ∧ (∀ k, w'.frozen? ⟨kb, k, none⟩ = false) ∧ BoxP w' qb q := by
  have h1 := (h.below (below_alloc (Below.refl _ w) o)).drew
  have hk : Ken (fun k => lv.ownBlock = some k) (w.alloc o).drew w' := (Ken.refl _ _).grown hg (fun k hk => .inl hk)
  have n1 : ¬ lv.ownBlock = some kb := fun he => (h.km.fl kb he).1 rfl
  have n2 : ¬ lv.ownBlock = some qb := fun he => by have := hold _ he; have := h.qge; omega
  exact ⟨hk.cell h1.km.k0 n1, fun k => (hk.free h1.km.lt n1).trans (h1.km.kf k), hk.cell h1.qx.c0 n2, hk.cell h1.qx.c1 n2, hk.cell h1.qx.c2 n2, hk.cell h1.qx.c3 n2⟩
theorem RqAt.appendL {g cap n : Nat} {ps2 : List Pos} (h : RqAt W w S kb lv mv ps ms m q qb) (hS : ∀ k, W.heap.size ≤ k → S k) (hold : ∀ k, lv.ownBlock = some k → k < W.heap.size) (o : Obj) (hg : (w.alloc o).drew.grownBy w' lv.ownBlock)
    (ho : w'.ownsRow 0 23 4 (.slice (some ⟨g, 0, none⟩) ps2.length cap) ps2.length (flatP ps2)) (hat : lv.ownBlock = some g ∨ g = w.heap.size + 1) (hn : ps2.length = n) :
    RqAt W (w'.setCell ⟨kb, 0, none⟩ (.slice (some ⟨g, 0, none⟩) n cap)) S kb (.slice (some ⟨g, 0, none⟩) n cap) mv ps2 ms m q qb := by
  subst hn
  have h1 := (h.below (below_alloc (Below.refl _ w) o)).drew
  have hlt := h.km.lt
  have hqlt : qb < w.heap.size := World.block_lt_of_cell? w ⟨qb, 0, none⟩ h.qx.c0
  have hq := h.qge
  have hml := own_lt h.km.rm
  have hk : Ken (fun k => lv.ownBlock = some k) (w.alloc o).drew w' := (Ken.refl _ _).grown hg (fun k hk => .inl hk)
  have hkL := (h.grewL hold o hg).1
  have n0 : ¬ lv.ownBlock = some kb := fun he => (h.km.fl kb he).1 rfl
  have hk2 : Ken (fun k => lv.ownBlock = some k ∨ k = kb) (w.alloc o).drew (w'.setCell ⟨kb, 0, none⟩ (.slice (some ⟨g, 0, none⟩) ps2.length cap)) := (hk.mono (fun k h => .inl h)).setCell (p := ⟨kb, 0, none⟩) (.inl (.inr rfl)) _
  have hk3 : Ken (fun k => k = kb) w' (w'.setCell ⟨kb, 0, none⟩ (.slice (some ⟨g, 0, none⟩) ps2.length cap)) := (Ken.refl (fun k => k = kb) _).setCell (p := ⟨kb, 0, none⟩) (.inl rfl) _
  have hgk : g ≠ kb ∧ S g ∧ mv.ownBlock ≠ some g := by
    rcases hat with he | he
    · exact h.km.fl g he
    · exact ⟨by omega, hS _ (by have := h.ken.size; omega), fun h2 => by have := hml g h2; omega⟩
  have hk1 : w'.cell? ⟨kb, 1, none⟩ = some mv := hk.cell h1.km.k1 n0
  have hrm := hk.row h1.km.rm (fun k he hg => (h.km.fl k hg).2.2 he)
  have hkm : KmX (w'.setCell ⟨kb, 0, none⟩ (.slice (some ⟨g, 0, none⟩) ps2.length cap)) S kb (.slice (some ⟨g, 0, none⟩) ps2.length cap) mv ps2 ms :=
    ⟨World.cell?_setCell_same' _ _ _ (by rw [hkL]; rfl), by simp [go_sem, hk1], fun k => (World.frozen?_setCell _ _ _ _).trans ((h.grewL hold o hg).2.1 k), hk3.row ho (fun k he => by simp only [Value.ownBlock, Option.some.injEq] at he; subst he; exact hgk.1), hk3.row hrm (fun k he hg => (h.km.fm k he).1 hg), fun k he => by simp only [Value.ownBlock, Option.some.injEq] at he; subst he; exact hgk, h.km.fm, h.km.sk⟩
  have hr : ∀ k, (lv.ownBlock = some k ∨ k = kb) → k < W.heap.size := fun k hk => hk.elim (hold k) (fun he => by rw [he]; exact h.low)
  have n1 : ¬ (lv.ownBlock = some W.heap.size ∨ W.heap.size = kb) := fun hh => by have := hr _ hh; omega
  have n2 : ¬ (lv.ownBlock = some qb ∨ qb = kb) := fun hh => by have := hr _ hh; omega
  exact ⟨hkm, hk2.cell h1.d0 n1, hk2.cell h1.d1 n1, ⟨hk2.cell h1.qx.c0 n2, hk2.cell h1.qx.c1 n2, hk2.cell h1.qx.c2 n2, hk2.cell h1.qx.c3 n2⟩, h1.ken.trans hk2 (fun k hk => .inl (hk.elim (fun he => (h.km.fl k he).2.1) (fun he => by rw [he]; exact h.km.sk))), h.qge, h.low⟩
/-- .. behind the row of moves. -/
theorem RqAt.grewM (h : RqAt W w S kb lv mv ps ms m q qb) (hold : ∀ k, mv.ownBlock = some k → k < W.heap.size) (o : Obj) (hg : (w.alloc o).drew.grownBy w' mv.ownBlock) :
    w'.cell? ⟨kb, 1, none⟩ = some mv ∧ (∀ k, w'.frozen? ⟨kb, k, none⟩ = false) ∧ w'.cell? ⟨W.heap.size, 0, none⟩ = some (.int .i64 m.frm) ∧ w'.cell? ⟨W.heap.size, 1, none⟩ = some (.int .i64 m.dest) := by
  have h1 := (h.below (below_alloc (Below.refl _ w) o)).drew
  have hk : Ken (fun k => mv.ownBlock = some k) (w.alloc o).drew w' := (Ken.refl _ _).grown hg (fun k hk => .inl hk)
  have n1 : ¬ mv.ownBlock = some kb := fun he => (h.km.fm kb he).1 rfl
  have n2 : ¬ mv.ownBlock = some W.heap.size := fun he => by have := hold _ he; omega
  exact ⟨hk.cell h1.km.k1 n1, fun k => (hk.free h1.km.lt n1).trans (h1.km.kf k), hk.cell h1.d0 n2, hk.cell h1.d1 n2⟩
theorem RqAt.appendM {g cap n : Nat} {ms2 : List Mv} (h : RqAt W w S kb lv mv ps ms m q qb) (hS : ∀ k, W.heap.size ≤ k → S k) (hold : ∀ k, mv.ownBlock = some k → k < W.heap.size) (o : Obj) (hg : (w.alloc o).drew.grownBy w' mv.ownBlock)
    (ho : w'.ownsRow 0 32 2 (.slice (some ⟨g, 0, none⟩) ms2.length cap) ms2.length (flatM ms2)) (hat : mv.ownBlock = some g ∨ g = w.heap.size + 1) (hn : ms2.length = n) :
    RqAt W (w'.setCell ⟨kb, 1, none⟩ (.slice (some ⟨g, 0, none⟩) n cap)) S kb lv (.slice (some ⟨g, 0, none⟩) n cap) ps ms2 m q qb := by
  subst hn
  have h1 := (h.below (below_alloc (Below.refl _ w) o)).drew
  have hlt := h.km.lt
  have hqlt : qb < w.heap.size := World.block_lt_of_cell? w ⟨qb, 0, none⟩ h.qx.c0
  have hq := h.qge
  have hll := own_lt h.km.rl
  have hk : Ken (fun k => mv.ownBlock = some k) (w.alloc o).drew w' := (Ken.refl _ _).grown hg (fun k hk => .inl hk)
  have hkM := (h.grewM hold o hg).1
  have n0 : ¬ mv.ownBlock = some kb := fun he => (h.km.fm kb he).1 rfl
  have hk2 : Ken (fun k => mv.ownBlock = some k ∨ k = kb) (w.alloc o).drew (w'.setCell ⟨kb, 1, none⟩ (.slice (some ⟨g, 0, none⟩) ms2.length cap)) := (hk.mono (fun k h => .inl h)).setCell (p := ⟨kb, 1, none⟩) (.inl (.inr rfl)) _
  have hk3 : Ken (fun k => k = kb) w' (w'.setCell ⟨kb, 1, none⟩ (.slice (some ⟨g, 0, none⟩) ms2.length cap)) := (Ken.refl (fun k => k = kb) _).setCell (p := ⟨kb, 1, none⟩) (.inl rfl) _
  have hgk : g ≠ kb ∧ S g ∧ lv.ownBlock ≠ some g := by
    rcases hat with he | he
    · exact ⟨(h.km.fm g he).1, (h.km.fm g he).2, fun h2 => (h.km.fl g h2).2.2 he⟩
    · exact ⟨by omega, hS _ (by have := h.ken.size; omega), fun h2 => by have := hll g h2; omega⟩
  have hk1 : w'.cell? ⟨kb, 0, none⟩ = some lv := hk.cell h1.km.k0 n0
  have hrl := hk.row h1.km.rl (fun k he hg => (h.km.fl k he).2.2 hg)
  have hkm : KmX (w'.setCell ⟨kb, 1, none⟩ (.slice (some ⟨g, 0, none⟩) ms2.length cap)) S kb lv (.slice (some ⟨g, 0, none⟩) ms2.length cap) ps ms2 :=
    ⟨by simp [go_sem, hk1], World.cell?_setCell_same' _ _ _ (by rw [hkM]; rfl), fun k => (World.frozen?_setCell _ _ _ _).trans ((h.grewM hold o hg).2.1 k), hk3.row hrl (fun k he hg => (h.km.fl k he).1 hg), hk3.row ho (fun k he => by simp only [Value.ownBlock, Option.some.injEq] at he; subst he; exact hgk.1), fun k he => ⟨(h.km.fl k he).1, (h.km.fl k he).2.1, fun h2 => by simp only [Value.ownBlock, Option.some.injEq] at h2; subst h2; exact hgk.2.2 he⟩, fun k he => by simp only [Value.ownBlock, Option.some.injEq] at he; subst he; exact ⟨hgk.1, hgk.2.1⟩, h.km.sk⟩
  have hr : ∀ k, (mv.ownBlock = some k ∨ k = kb) → k < W.heap.size := fun k hk => hk.elim (hold k) (fun he => by rw [he]; exact h.low)
  have n1 : ¬ (mv.ownBlock = some W.heap.size ∨ W.heap.size = kb) := fun hh => by have := hr _ hh; omega
  have n2 : ¬ (mv.ownBlock = some qb ∨ qb = kb) := fun hh => by have := hr _ hh; omega
  exact ⟨hkm, hk2.cell h1.d0 n1, hk2.cell h1.d1 n1, ⟨hk2.cell h1.qx.c0 n2, hk2.cell h1.qx.c1 n2, hk2.cell h1.qx.c2 n2, hk2.cell h1.qx.c3 n2⟩, h1.ken.trans hk2 (fun k hk => .inl (hk.elim (fun he => (h.km.fm k he).2) (fun he => by rw [he]; exact h.km.sk))), h.qge, h.low⟩
end
theorem info_pos : (Tryz.prog.info? 23).map (fun i => (i.zero, i.size, i.bytes)) = some (some (.agg #[.string { data := #[] }, .int .i64 0, .int .i64 0, .int .i64 0]), 4, 40) := by kernel_rfl
theorem info_mov : (Tryz.prog.info? 32).map (fun i => (i.zero, i.size, i.bytes)) = some (some (.agg #[.int .i64 0, .int .i64 0]), 2, 16) := by kernel_rfl
/-- A position is appended, in a region. -/
theorem step_appP {ops : Array Oper} {o : Oper} {a : Act} {K : Act → World → Prop} {Q : Exit → Act → World → Prop} {E : Prop} (W : World) (hgd : o.guard = none) (s x : Operand)
    (ho : o.op = .call { callee := .builtin .append, args := #[s, x], argTypes := #[49, 49] }) (v : Value) (ps : List Pos) (q : Pos) (hs : a.eval s = v) (hx : a.eval x = .slice (some ⟨W.heap.size, 0, none⟩) 1 1)
    (hown : W.ownsRow 0 23 4 v ps.length (flatP ps)) (hlen : ps.length ≤ 1025)
    (h : ∀ b cap w', w'.ownsRow 0 23 4 (.slice (some ⟨b, 0, none⟩) (ps ++ [q]).length cap) (ps ++ [q]).length (flatP (ps ++ [q])) → (W.alloc (.cells #[.string q.cells, .int .i64 q.side, .int .i64 q.clock, .int .i64 q.full] 23)).drew.grownBy w' v.ownBlock → (v.ownBlock = some b ∨ b = W.heap.size + 1) → K (a.put o.dst (.slice (some ⟨b, 0, none⟩) (ps.length + 1) cap)) w') :
    if Region.wanted o (yielded ops a.tmps) = true then Oper.wp Tryz.prog o a (W.alloc (.cells #[.string q.cells, .int .i64 q.side, .int .i64 q.clock, .int .i64 q.full] 23)).drew K Q else E := by
  obtain ⟨i0, hi0, hx0⟩ := Option.map_eq_some_iff.1 info_pos
  simp only [Prod.mk.injEq] at hx0
  have hb := pw_below_drewN (below_alloc (Below.refl W.heap.size W) (.cells #[.string q.cells, .int .i64 q.side, .int .i64 q.clock, .int .i64 q.full] 23)) 1
  have hown2 := (Ken.of_below hb (fun _ => False)).row hown (fun _ _ hk => hk)
  refine step_append_lies _ hgd s x _ ho 0 23 i0 _ 4 40 Tryz.underlying49 hi0 hx0.1 hx0.2.1 hx0.2.2 rfl (by omega) v ps.length (flatP ps) hs hown2 ⟨W.heap.size, 0, none⟩ 1 1 (posC q) hx rfl
    (World.news_of_block (cs := #[.string q.cells, .int .i64 q.side, .int .i64 q.clock, .int .i64 q.full]) (t := 23) (fr := (0, 0)) (by exact heap_alloc_new _ _)) (by simp [Value.oneCell', posC]) (by omega) (by unfold maxLen; omega) (by omega) (Nat.zero_le _) _ rfl ?_
  intro b cap w' h1 h2 h3 _
  refine h b cap w' ?_ h2 (h3.imp id (fun he => by rw [he]; show (W.alloc _).heap.size = _; simp))
  rw [flatP_append, List.length_append]
  exact h1
/-- A move is appended, in a region. -/
theorem step_appV {ops : Array Oper} {o : Oper} {a : Act} {K : Act → World → Prop} {Q : Exit → Act → World → Prop} {E : Prop} (W : World) (hgd : o.guard = none) (s x : Operand)
    (ho : o.op = .call { callee := .builtin .append, args := #[s, x], argTypes := #[26, 26] }) (v : Value) (ms : List Mv) (m : Mv) (hs : a.eval s = v) (hx : a.eval x = .slice (some ⟨W.heap.size, 0, none⟩) 1 1)
    (hown : W.ownsRow 0 32 2 v ms.length (flatM ms)) (hlen : ms.length ≤ 1024)
    (h : ∀ b cap w', w'.ownsRow 0 32 2 (.slice (some ⟨b, 0, none⟩) (ms ++ [m]).length cap) (ms ++ [m]).length (flatM (ms ++ [m])) → (W.alloc (.cells #[.int .i64 (m.1 : Int), .int .i64 (m.2 : Int)] 32)).drew.grownBy w' v.ownBlock → (v.ownBlock = some b ∨ b = W.heap.size + 1) → K (a.put o.dst (.slice (some ⟨b, 0, none⟩) (ms.length + 1) cap)) w') :
    if Region.wanted o (yielded ops a.tmps) = true then Oper.wp Tryz.prog o a (W.alloc (.cells #[.int .i64 (m.1 : Int), .int .i64 (m.2 : Int)] 32)).drew K Q else E := by
  obtain ⟨i0, hi0, hx0⟩ := Option.map_eq_some_iff.1 info_mov
  simp only [Prod.mk.injEq] at hx0
  have hb := pw_below_drewN (below_alloc (Below.refl W.heap.size W) (.cells #[.int .i64 (m.1 : Int), .int .i64 (m.2 : Int)] 32)) 1
  have hown2 := (Ken.of_below hb (fun _ => False)).row hown (fun _ _ hk => hk)
  refine step_append_lies _ hgd s x _ ho 0 32 i0 _ 2 16 Tryz.underlying26 hi0 hx0.1 hx0.2.1 hx0.2.2 rfl (by omega) v ms.length (flatM ms) hs hown2 ⟨W.heap.size, 0, none⟩ 1 1 (mvC m) hx rfl
    (World.news_of_block (cs := #[.int .i64 (m.1 : Int), .int .i64 (m.2 : Int)]) (t := 32) (fr := (0, 0)) (by exact heap_alloc_new _ _)) (by simp [Value.oneCell', mvC]) (by omega) (by unfold maxLen; omega) (by omega) (Nat.zero_le _) _ rfl ?_
  intro b cap w' h1 h2 h3 _
  refine h b cap w' ?_ h2 (h3.imp id (fun he => by rw [he]; show (W.alloc _).heap.size = _; simp))
  rw [flatM_append, List.length_append]
  exact h1
def RmadeIs (S : Nat → Prop) (kb : Nat) (r : Int) (ps' : List Pos) (ms' : List Mv) (W : World) (e : Ending) (w' : World) : Prop :=
  ∃ lv' mv', e = .returned (.int .i64 r) ∧ KmX w' (andNew S W w') kb lv' mv' ps' ms' ∧ Ken S W w'
end Go.Proofs.YtgmlojocafepiaaGreatDoor.K

/- The reference's game: Make, the walk. -/
namespace Go.Proofs.YtgmlojocafepiaaGreatDoor.K
open Go.RowKit Go.Lib Go.Proofs.YtgmlojocafepiaaGreatDoorW.PrintWords Go.Proofs.YtgmlojocafepiaaGreatDoor.Sp
set_option linter.unusedVariables false
set_option linter.unusedSimpArgs false
theorem RkAt.out {W w : World} {S : Nat → Prop} {kb : Nat} {lv mv : Value} {ps : List Pos} {ms : List Mv} {m : Mvi} (h : RkAt W w S kb lv mv ps ms m) (r : Int) : RmadeIs S kb r ps ms W (.returned (.int .i64 r)) w :=
  ⟨lv, mv, rfl, h.km.to (fun k hk _ => .inl hk), Ken.of_below h.bel S⟩
theorem RqAt.out {W w : World} {S : Nat → Prop} {kb qb : Nat} {lv mv : Value} {ps : List Pos} {ms : List Mv} {m : Mvi} {q : Pos} (h : RqAt W w S kb lv mv ps ms m q qb) (r : Int) : RmadeIs S kb r ps ms W (.returned (.int .i64 r)) w :=
  ⟨lv, mv, rfl, h.km.to (fun k hk _ => .inl hk), h.ken⟩
theorem RqAt.fin {W w : World} {S : Nat → Prop} {kb qb : Nat} {lv mv : Value} {ps : List Pos} {ms : List Mv} {m : Mvi} {q : Pos} (h : RqAt W w (orNew S W) kb lv mv ps ms m q qb) (r : Int) : RmadeIs S kb r ps ms W (.returned (.int .i64 r)) w :=
  ⟨lv, mv, rfl, h.km.to (fun k hk hl => hk.elim .inl (fun h3 => .inr ⟨h3, hl⟩)), h.ken.orNew⟩
set_option maxRecDepth 100000 in
set_option maxHeartbeats 4000000 in
theorem rgmake_c (S : Nat → Prop) (kb : Nat) (lv mv : Value) (ps : List Pos) (now : Pos) (ms : List Mv) (m : Mvi) (W : World) (h : KmX W S kb lv mv (ps ++ [now]) ms) (hmx : now.cells.size ≤ maxLen) (hl : ps.length = ms.length) (hl2 : ms.length ≤ 1024) : Calls Tryz.prog 26 #[.pointer (some ⟨kb, 0, none⟩), mviV m] W
    (if ms.length = 1024 then RmadeIs S kb 8 (ps ++ [now]) ms W else if (makeP now m).2.2 ≠ 0 then RmadeIs S kb 7 (ps ++ [now]) ms W else RmadeIs S kb 0 (ps ++ [now] ++ [(makeP now m).1]) (ms ++ [(m.frm.toNat, m.dest.toNat)]) W) := by
  have hu := Tryz.underlying23
  have hu2 := Tryz.underlying32
  have HP0 := Aside0.mk (RkAt.new h m)
  have h0 := h
  obtain ⟨Am, capm, rfl⟩ := row_form h.rm
  by_cases h1 : ms.length = 1024
  · rw [if_pos h1]
    have hn : (ms.length : Int) = 1024 := by omega
    clear h1 h hl
    go_enter Tryz.func26, Tryz.ntmps26
    go_upto_region 1 with fail
    generalize W.alloc (.cells #[.int .i64 m.frm, .int .i64 m.dest] 32) = W1 at *
    obtain ⟨k0, k1, kf, _, _, _, _, _⟩ := HP0.out.km
    go_wp2_with fail
    go_ret
    exact HP0.out.out 8
  rw [if_neg h1]
  have hn : ¬ ((1024 : Int) ≤ (ms.length : Int)) := by omega
  have HMK := Aside0.mk (fun W => rmake8_c now hmx m W)
  have HNW := Aside0.mk (fun (V : World) (S : Nat → Prop) (lv mv : Value) (h : KmX V S kb lv mv (ps ++ [now]) ms) => rnow_c h (by omega))
  have HER := Aside0.mk (fun (h : (makeP now m).2.2 = 0) => safe_form (make_err.1 h).1 (make_err.1 h).2)
  have HLQ := Aside0.mk (show (ps ++ [now]).length ≤ 1025 by simp; omega)
  generalize ps ++ [now] = qs at *
  unfold MakeIs at HMK
  generalize hmk : makeP now m = mk at *
  obtain ⟨q, c, er⟩ := mk
  simp only at HMK HER ⊢
  clear hmk h1 h hl hmx
  go_enter Tryz.func26, Tryz.ntmps26
  go_upto_region 1 with fail
  generalize W.alloc (.cells #[.int .i64 m.frm, .int .i64 m.dest] 32) = W1 at *
  obtain ⟨k0, k1, kf, _, _, _, _, _⟩ := HP0.out.km
  have d0 := HP0.out.d0
  have d1 := HP0.out.d1
  go_wp2_with fail
  have HX1 := Aside0.mk HP0.out.drew
  clear HP0
  go_cut [5, 6, 7] from 14 to 21 (fun s5 s6 s7 wx => ∃ qb : Nat, s5 = .pointer (some ⟨qb, 0, none⟩) ∧ s6 = .int .u8 (c : Int) ∧ s7 = .int .i64 er ∧ Aside0 (RqAt W wx S kb lv (.slice Am ms.length capm) qs ms m q qb))
  case first =>
    go_region_held3 (fun V => V.cell? ⟨W.heap.size, 0, none⟩ = some (.int .i64 m.frm) ∧ V.cell? ⟨W.heap.size, 1, none⟩ = some (.int .i64 m.dest)) (go_keep)
      (first
        | (go_at_call 27; (with_reducible refine (HNW.out _ _ _ _ HX1.out.km).mono ?_); rintro e w6 ⟨rfl, hb⟩; have HX2 := Aside0.mk (HX1.out.below hb); clear hb d0 d1; have d0 := HX2.out.d0; have d1 := HX2.out.d1; have n1 : w6.heap.size ≠ W.heap.size := World.new_ne w6 _ d0)
        | (go_at_call 27; refine (HNW.out _ _ _ _ (HX1.out.below (below_alloc (Below.refl _ _) _)).km).mono ?_; rintro e w6 ⟨rfl, hb⟩; have HZ := Aside0.mk (zq_new W1.drew w6 hb); have HX3 := Aside0.mk ((HX1.out.below (below_alloc (Below.refl _ _) _)).below hb); have n1 : W1.heap.size ≠ W.heap.size := World.new_ne W1 _ d0; clear hb d0 d1; have d0 := HX3.out.d0; have d1 := HX3.out.d1)
        | (go_at_call 67; (with_reducible refine (HMK.out w6).mono ?_); rintro e w7 ⟨rfl, hb⟩; have HX4 := Aside0.mk (HX2.out.below hb); clear hb d0 d1 n1; have d0 := HX4.out.d0; have d1 := HX4.out.d1; have n1 : w7.heap.size ≠ W.heap.size := World.new_ne w7 _ d0)
        | (go_at_call 67; (with_reducible refine (HMK.out w6).mono ?_); rintro e w7 ⟨rfl, hb⟩; have HX5 := Aside0.mk (HX3.out.below hb); have HZ5 := Aside0.mk (zq_below (W0 := W1.drew) HZ.out hb); clear hb d0 d1; have d0 := HX5.out.d0; have d1 := HX5.out.d1; have z0 : w7.cell? ⟨W1.heap.size, 0, none⟩ = some (.string { data := #[] }) := HZ5.out.1; have z1 : w7.cell? ⟨W1.heap.size, 1, none⟩ = some (.int .i64 0) := HZ5.out.2.1; have z2 : w7.cell? ⟨W1.heap.size, 2, none⟩ = some (.int .i64 0) := HZ5.out.2.2.1; have z3 : w7.cell? ⟨W1.heap.size, 3, none⟩ = some (.int .i64 0) := HZ5.out.2.2.2.1; have zf : ∀ k, w7.frozen? ⟨W1.heap.size, k, none⟩ = false := HZ5.out.2.2.2.2.1)
        | (go_at_call 67; refine (HMK.out _).mono ?_; rintro e w7 ⟨rfl, hb⟩; have HZ6 := Aside0.mk (zq_new w6 w7 hb); have HX6 := Aside0.mk ((HX2.out.below (below_alloc (Below.refl _ _) _)).below hb); clear hb d0 d1; have d0 := HX6.out.d0; have d1 := HX6.out.d1; have z0 : w7.cell? ⟨w6.heap.size, 0, none⟩ = some (.string { data := #[] }) := HZ6.out.1; have z1 : w7.cell? ⟨w6.heap.size, 1, none⟩ = some (.int .i64 0) := HZ6.out.2.1; have z2 : w7.cell? ⟨w6.heap.size, 2, none⟩ = some (.int .i64 0) := HZ6.out.2.2.1; have z3 : w7.cell? ⟨w6.heap.size, 3, none⟩ = some (.int .i64 0) := HZ6.out.2.2.2.1; have zf : ∀ k, w7.frozen? ⟨w6.heap.size, k, none⟩ = false := HZ6.out.2.2.2.2.1))
    all_goals
      go_wp2_with fail
      go_meet
      first
      | exact ⟨_, rfl, rfl, rfl, ⟨RqAt.mk1 HX4.out q⟩⟩
      | exact ⟨_, rfl, rfl, rfl, ⟨RqAt.mk2 HX2.out HZ6.out.2.2.2.2.2 z0 z1 z2 z3 q⟩⟩
      | exact ⟨_, rfl, rfl, rfl, ⟨RqAt.mk2 HX1.out HZ5.out.2.2.2.2.2 z0 z1 z2 z3 q⟩⟩
  case rest =>
  obtain ⟨qb, rfl, rfl, rfl, HQ⟩ := hcut
  clear k0 k1 kf d0 d1 HX1 HMK HNW
  by_cases her : er = 0
  case neg =>
    have hb : (er != 0) = true := by simp [her]
    go_wp2_with fail
    go_ret
    exact HQ.out.out 7
  case pos =>
  subst her
  obtain ⟨ma, mb, rfl⟩ := HER.out rfl
  have HQ2 := Aside0.mk (HQ.out.mono (T := orNew S W) (fun k h => .inl h))
  have HOL := Aside0.mk (And.intro (own_lt h0.rl) (own_lt h0.rm))
  obtain ⟨Al, capl, rfl⟩ := row_form HQ2.out.km.rl
  have HHL := Aside0.mk (And.intro HLQ.out hl2)
  clear HQ HER
  obtain ⟨k0, k1, kf, _, _, _, _, _⟩ := HQ2.out.km
  obtain ⟨f0, f1, f2, f3⟩ := HQ2.out.qx
  have nl1 : kb < _ := World.block_lt_of_cell? _ _ k0
  have nl2 : qb < _ := World.block_lt_of_cell? _ _ f0
  have nl3 : kb ≠ qb := by have := HQ2.out.low; have := HQ2.out.qge; omega
  have nl4 : qb ≠ kb := fun h => nl3 h.symm
  go_wp2_with fail
  go_cut [4] from 24 to 33 (fun s4 wy => s4 = .int .i64 0 ∧ ∃ b cap1, Aside0 (RqAt W wy (orNew S W) kb (.slice (some ⟨b, 0, none⟩) (qs.length + 1) cap1) (.slice Am ms.length capm) (qs ++ [q]) ms ⟨(ma : Int), (mb : Int)⟩ q qb))
  case first =>
    go_region_law
      ((refine step_appP _ (by rfl) (.tmp 28) (.tmp 30) (by rfl) _ qs q (by rfl) (by rfl) HQ2.out.km.rl HHL.out.1 ?_; intro b cap1 w4 hown hgrow hat; have HX4 := Aside0.mk (HQ2.out.appendL (fun k h => .inr h) HOL.out.1 _ hgrow hown hat (n := qs.length + 1) (by simp)); clear k0 kf f0 f1 f2 f3; obtain ⟨k0, kf, f0, f1, f2, f3⟩ := HQ2.out.grewL HOL.out.1 _ hgrow; clear hown hgrow hat))
    all_goals
      go_wp2_with fail
      go_meet
      exact ⟨rfl, _, _, HX4⟩
  case rest =>
  obtain ⟨rfl, b, cap1, HX4⟩ := hcut
  clear k0 k1 kf f0 f1 f2 f3 HQ2 nl1 nl2 nl3 nl4
  obtain ⟨k0, k1, kf, _, _, _, _, _⟩ := HX4.out.km
  have d0 := HX4.out.d0
  have d1 := HX4.out.d1
  have nl1 : kb < _ := World.block_lt_of_cell? _ _ k0
  have nl2 : W.heap.size < _ := World.block_lt_of_cell? _ _ d0
  have nl3 : kb ≠ W.heap.size := by have := HX4.out.low; omega
  have nl4 : W.heap.size ≠ kb := fun h => nl3 h.symm
  go_wp2_with fail
  go_cut [4] from 34 to 43 (fun s4 wy => s4 = .int .i64 0 ∧ ∃ b2 cap2, Aside0 (RqAt W wy (orNew S W) kb (.slice (some ⟨b, 0, none⟩) (qs.length + 1) cap1) (.slice (some ⟨b2, 0, none⟩) (ms.length + 1) cap2) (qs ++ [q]) (ms ++ [(ma, mb)]) ⟨(ma : Int), (mb : Int)⟩ q qb))
  case first =>
    go_region_law
      ((refine step_appV _ (by rfl) (.tmp 38) (.tmp 40) (by rfl) _ ms (ma, mb) (by rfl) (by rfl) HX4.out.km.rm HHL.out.2 ?_; intro b2 cap2 w5 hown hgrow hat; have HX5 := Aside0.mk (HX4.out.appendM (fun k h => .inr h) HOL.out.2 _ hgrow hown hat (n := ms.length + 1) (by simp)); clear k1 kf d0 d1; obtain ⟨k1, kf, d0, d1⟩ := HX4.out.grewM HOL.out.2 _ hgrow; clear hown hgrow hat))
    all_goals
      go_wp2_with fail
      go_meet
      exact ⟨rfl, _, _, HX5⟩
  case rest =>
  obtain ⟨rfl, b2, cap2, HX5⟩ := hcut
  go_wp2_with fail
  go_ret
  exact HX5.out.fin 0
end Go.Proofs.YtgmlojocafepiaaGreatDoor.K

/- Walk: the reference's Pieces. -/
namespace Go.Proofs.YtgmlojocafepiaaGreatDoor.K
open Go.RowKit Go.Lib Go.Proofs.YtgmlojocafepiaaGreatDoorW.PrintWords Go.Proofs.YtgmlojocafepiaaGreatDoor.Sp
set_option linter.unusedVariables false
set_option linter.unusedSimpArgs false
attribute [local go_sem] cel_get   -- for this text's walks alone
/-- The squares, of the first n, on which side a's pieces stand. -/
def pcL (s : ByteArray) (a : Int) (n : Nat) : List Nat := (List.range n).filter (fun i => decide (sideN (cel s i) = a))
theorem pcL_succ (s : ByteArray) (a : Int) (n : Nat) : pcL s a (n + 1) = pcL s a n ++ (if sideN (cel s n) = a then [n] else []) := by
  unfold pcL
  rw [List.range_succ, List.filter_append]
  congr 1
  split <;> simp_all
theorem pcL_len (s : ByteArray) (a : Int) (n : Nat) : (pcL s a n).length ≤ n := by
  unfold pcL; exact Nat.le_trans (List.length_filter_le _ _) (by simp)
set_option maxRecDepth 100000 in
set_option maxHeartbeats 4000000 in
theorem rpieces_c (s : ByteArray) (hs : isBoard s = true) (a : Int) (ha : 0 ≤ a) (w : World) :
    Calls Tryz.prog 34 #[.string s, .int .i64 a] w fun e w' => ∃ v, e = .returned v ∧ IntsAt w' w.heap.size v (piecesS s a) ∧ Below w.heap.size w w' := by
  have HSZ := Aside0.mk (board_size hs)
  have HIS := Aside0.mk (fun W => ris_c s (by rw [HSZ.out]; unfold maxLen; omega) W)
  have HR := Aside0.mk (show piecesS s a = pcL s a 90 by
    unfold piecesS pcL
    rw [if_pos hs, decide_eq_true ha]
    simp)
  rw [hs] at HIS
  clear hs
  have hna : ¬ (a < 0) := by omega
  clear ha
  obtain ⟨i0, hi0, hx0⟩ := Option.map_eq_some_iff.1 info_int
  simp only [Prod.mk.injEq] at hx0
  have HZ := Aside0.mk (⟨hi0, hx0⟩ : _ ∧ _)
  clear hx0 hi0
  have hsz : (s.size : Int) = 90 := by rw [HSZ.out]; rfl
  go_enter Tryz.func34, Tryz.ntmps34
  go_wp2_with fail
  refine (HIS.out _).mono ?_
  rintro e w1 ⟨rfl, rfl⟩
  go_wp2_with fail
  go_loopg [5, 6] 90 (fun gg s5 s6 wr => ∃ i : Nat, s6 = .int .i64 i ∧ i + gg = 90 ∧ Aside0 (FindAt w1 wr s5 (pcL s a i)))
  case atStart => exact ⟨0, rfl, by omega, ⟨⟨own_nil _ _ _ _, Below.refl _ _⟩⟩⟩
  case round =>
    obtain ⟨i, rfl, hi, HG⟩ := hrel
    cases gk with
    | zero =>
      have hn : ¬ ((i : Int) < 90) := by omega
      have HI := Aside0.mk (show i = 90 by omega)
      clear hi
      go_wp2_with fail
      go_ret
      refine ⟨_, rfl, ints_ofI ?_, HG.out.bel⟩
      rw [HR.out, ← HI.out]
      exact HG.out.own
    | succ g =>
      have hn : ((i : Int) < 90) := by omega
      have HI := Aside0.mk (show i + 1 + g = 90 by omega)
      have HLN := Aside0.mk (show (pcL s a i).length ≤ 90 by have := pcL_len s a i; have := HI.out; omega)
      have HSD := Aside0.mk (fun W => rside_c (cel s i) (cel_lt s i) W)
      clear hi
      cases hc : (sideN (cel s i) == a)
      case false =>
        have HF := Aside0.mk (show pcL s a (i + 1) = pcL s a i by rw [pcL_succ, if_neg (by simpa using hc), List.append_nil])
        generalize sideN (cel s i) = sd at *
        go_wp2_with fail
        refine (HSD.out _).mono ?_
        rintro e w2 ⟨rfl, rfl⟩
        go_wp2_with fail
        go_roundg g
        case measure => omega
        case rel => exact ⟨i + 1, rfl, HI.out, ⟨by rw [HF.out]; exact HG.out⟩⟩
      case true =>
        have HF := Aside0.mk (show pcL s a (i + 1) = pcL s a i ++ [i] by rw [pcL_succ, if_pos (by simpa using hc)])
        generalize pcL s a i = l at *
        generalize sideN (cel s i) = sd at *
        go_wp2_with fail
        refine (HSD.out _).mono ?_
        rintro e w2 ⟨rfl, rfl⟩
        go_wp2_with (first | (at_builtin; refine hold ?_))
        refine Hold.go ?_
        refine wpList_append_lies _ (by rfl) _ _ _ (by rfl) w1.heap.size 3 i0 _ 1 8 Tryz.underlying55 HZ.out.1 HZ.out.2.1 HZ.out.2.2.1 HZ.out.2.2.2 rfl (by omega) _ l.length (flatI l) (by rfl) (HG.out.own.below (below_alloc (Below.refl _ _) _)) ⟨w2.heap.size, 0, none⟩ 1 1 [.int .i64 (i : Int)] (by rfl) (by rfl) (World.news_of_block (cs := #[.int .i64 (i : Int)]) (t := 3) (fr := (0, 0)) (news_own _ _)) (by simp [Value.oneCell']) (by omega) (by have := HLN.out; unfold maxLen; omega) (by have := HLN.out; omega) (by have := HG.out.bel.size; simp; omega) _ rfl ?_
        intro gg cap1 w3 hown1 hgrow hat hlt1
        have HO1 := Aside0.mk hown1
        have HGR := Aside0.mk hgrow
        clear hown1 hgrow hat
        go_wp2_with fail
        go_roundg g
        case measure => omega
        case rel =>
          refine ⟨i + 1, rfl, HI.out, ⟨?_⟩⟩
          rw [HF.out]
          refine (HG.out.below (below_alloc (Below.refl _ _) _)).grown HGR.out ?_
          have ho := HO1.out
          unfold OwnI
          rw [flatI_append, List.length_append]
          exact ho
end Go.Proofs.YtgmlojocafepiaaGreatDoor.K

/- A script of a game that comes in, out of a row's words. -/
namespace Go.Proofs.YtgmlojocafepiaaGreatDoor.K
open Go.RowKit Go.Lib Go.ChangeShapes Go.Proofs.YtgmlojocafepiaaGreatDoor.P Go.Proofs.YtgmlojocafepiaaGreatDoorW.PrintWords Go.Proofs.YtgmlojocafepiaaGreatDoor.Sp
set_option linter.unusedVariables false
set_option linter.unusedSimpArgs false
structure Opi where
  back : Bool
  m : Mvi
/-- A script that lies before the law begins. -/
def OpsAt (w : World) (a : Option Addr) (n : Nat) (O : Nat → Opi) : Prop := n = 0 ∨ ∃ g o, a = some ⟨g, o, none⟩ ∧ ∀ i, i < n → w.cell? ⟨g, o + i * 3, none⟩ = some (.bool (O i).back) ∧ w.cell? ⟨g, o + i * 3 + 1, none⟩ = some (.int .i64 (O i).m.frm) ∧ w.cell? ⟨g, o + i * 3 + 2, none⟩ = some (.int .i64 (O i).m.dest)
theorem ops_of {W : World} {a : Option Addr} {len cap : Nat}
    (h : (a = none ∧ len = 0 ∧ cap = 0) ∨ ∃ ad, a = some ad ∧ len ≤ cap ∧ cap ≤ maxLen ∧ ∀ i, i < len → ∀ (j : Nat) (k : FK), [FK.bool, .int .i64, .int .i64][j]? = some k → ∃ c, W.cell? (ad.add (i * 3 + j)) = some c ∧ k.has c) :
    ∃ O : Nat → Opi, OpsAt W a len O := by
  rcases h with ⟨_, rfl, _⟩ | ⟨ad, rfl, hl, hm, hx⟩
  · exact ⟨fun _ => ⟨false, 0, 0⟩, .inl rfl⟩
  by_cases h0 : len = 0
  · exact ⟨fun _ => ⟨false, 0, 0⟩, .inl h0⟩
  obtain ⟨c, hc, _⟩ := hx 0 (by omega) 0 _ rfl
  obtain ⟨g, o, rfl⟩ := add_spot9 _ _ _ hc
  have each : ∀ i, i < len → ∃ x : Opi, W.cell? ⟨g, o + i * 3, none⟩ = some (.bool x.back) ∧ W.cell? ⟨g, o + i * 3 + 1, none⟩ = some (.int .i64 x.m.frm) ∧ W.cell? ⟨g, o + i * 3 + 2, none⟩ = some (.int .i64 x.m.dest) := by
    intro i hi
    obtain ⟨c0, h0, b0, rfl⟩ := hx i hi 0 _ rfl
    obtain ⟨c1, h1, n1, rfl, w1⟩ := hx i hi 1 _ rfl
    obtain ⟨c2, h2, n2, rfl, w2⟩ := hx i hi 2 _ rfl
    rw [add_at9] at h0 h1 h2
    exact ⟨⟨b0, n1, n2⟩, h0, h1, h2⟩
  refine ⟨fun i => if h : i < len then Classical.choose (each i h) else ⟨false, 0, 0⟩, .inr ⟨g, o, rfl, fun i hi => ?_⟩⟩
  simp only [hi, dif_pos]
  exact Classical.choose_spec (each i hi)
end Go.Proofs.YtgmlojocafepiaaGreatDoor.K

/- GamePlays: both games side by side. -/
namespace Go.Proofs.YtgmlojocafepiaaGreatDoor.K
open Go.RowKit Go.Lib Go.Proofs.YtgmlojocafepiaaGreatDoorW.PrintWords Go.Proofs.YtgmlojocafepiaaGreatDoor.Sp
set_option linter.unusedVariables false
set_option linter.unusedSimpArgs false
theorem rgmake9 (S : Nat → Prop) (kb : Nat) (lv mv : Value) (ps : List Pos) (now : Pos) (us : List Und) (m : Mvi) (W : World) (h : KmX W S kb lv mv (ps ++ [now]) (mvU us)) (hp : Plays ps us now) (hl : us.length ≤ 1024) : Calls Tryz.prog 26 #[.pointer (some ⟨kb, 0, none⟩), mviV m] W
    fun e w' => ∃ ps2 lv' mv', e = .returned (.int .i64 (stepMake now us m).1) ∧ (Plays ps2 (stepMake now us m).2.2 (stepMake now us m).2.1 ∧ (stepMake now us m).2.2.length ≤ us.length + 1) ∧ KmX w' (andNew S W w') kb lv' mv' (ps2 ++ [(stepMake now us m).2.1]) (mvU (stepMake now us m).2.2) ∧ Ken S W w' := by
  have hml : (mvU us).length = us.length := by simp [mvU]
  have hbd := (argOk_yes (checkP_board (well_check hp.well))).1
  refine (rgmake_c S kb lv mv ps now (mvU us) m W h (by rw [board_size hbd]; unfold maxLen; omega) (by rw [hml, hp.len]) (by rw [hml]; exact hl)).mono ?_
  intro e w' hr
  rw [hml] at hr
  have hmd := hp.made (m := m)
  unfold stepMake at hmd ⊢
  by_cases h1 : us.length = 1024
  · rw [if_pos h1] at hr hmd ⊢
    obtain ⟨lv', mv', he, hk, hken⟩ := hr
    exact ⟨ps, lv', mv', he, ⟨hp, Nat.le_succ _⟩, hk, hken⟩
  rw [if_neg h1] at hr hmd ⊢
  by_cases h2 : (makeP now m).2.2 ≠ 0
  · rw [if_pos h2] at hr hmd ⊢
    obtain ⟨lv', mv', he, hk, hken⟩ := hr
    exact ⟨ps, lv', mv', he, ⟨hp, Nat.le_succ _⟩, hk, hken⟩
  rw [if_neg h2] at hr hmd ⊢
  obtain ⟨lv', mv', he, hk, hken⟩ := hr
  obtain ⟨_, h3, h4⟩ := hmd.resolve_right (fun h => h.1 rfl)
  exact ⟨ps ++ [now], lv', mv', he, ⟨h3, Nat.le_of_eq h4⟩, by simpa [mvU] using hk, hken⟩
theorem runmake9 {W : World} {S : Nat → Prop} {kb : Nat} {lv mv : Value} {ps : List Pos} {p q : Pos} {us : List Und} {u : Und} (h : KmX W S kb lv mv (ps ++ [p] ++ [q]) (mvU (us ++ [u]))) (hl : ps.length = us.length) (hl2 : us.length < 1024) : Calls Tryz.prog 24 #[.pointer (some ⟨kb, 0, none⟩)] W fun e w' => ∃ lv' mv', e = .returned (.int .i64 0) ∧ KmX w' S kb lv' mv' (ps ++ [p]) (mvU us) ∧ Ken S W w' := by
  have e : mvU (us ++ [u]) = mvU us ++ [u.mv] := by simp [mvU]
  rw [e] at h
  exact runmake_c h (by simp; omega) (by simp [mvU]; omega)
/-- Two rows of the same numbers. -/
theorem ints_same {W : World} {B1 B2 : Nat} {v1 v2 : Value} {l : List Nat} (h1 : IntsAt W B1 v1 l) (h2 : IntsAt W B2 v2 l) (hl : l.length ≤ 1000000) : Calls Tryz.prog 32 #[v1, v2] W fun e w' => e = .returned (.bool true) ∧ Below W.heap.size W w' := by
  refine (intsA_c W B1 B2 v1 v2 l l h1 h2 hl hl).mono ?_
  intro e w' h
  simpa using h
/-- The game and the reference's. -/
structure U9 (w W : World) (S : Nat → Prop) (gb pb : Nat) (sv : Value) (now : Pos) (us : List Und) (S2 : Nat → Prop) (kb : Nat) (lv mv : Value) (qs : List Pos) (ms : List Mv) : Prop where
  g : G9 w W S gb pb sv now us
  k : KmX W S2 kb lv mv qs ms
  ks : ∀ i, S2 i → ¬ S i ∧ w.heap.size ≤ i ∧ i < W.heap.size
section
variable {w W W' : World} {S S2 : Nat → Prop} {gb pb kb nb : Nat} {sv sv' lv mv lv' mv' : Value} {now now' : Pos} {us us' : List Und} {qs qs' : List Pos} {ms ms' : List Mv}
theorem U9.below (h : U9 w W S gb pb sv now us S2 kb lv mv qs ms) (hb : Below W.heap.size W W') : U9 w W' S gb pb sv now us S2 kb lv mv qs ms :=
  ⟨h.g.below hb, h.k.below hb, fun i hi => ⟨(h.ks i hi).1, (h.ks i hi).2.1, Nat.lt_of_lt_of_le (h.ks i hi).2.2 hb.size⟩⟩
theorem U9.drew (h : U9 w W S gb pb sv now us S2 kb lv mv qs ms) : U9 w W.drew S gb pb sv now us S2 kb lv mv qs ms := h.below (pw_below_drewN (Below.refl _ _) 1)
theorem U9.gmade (h : U9 w W S gb pb sv now us S2 kb lv mv qs ms) (hk : Ken S W W') (hg : GmX W' (andNew S W W') gb pb sv' now' us') : ∃ S', U9 w W' S' gb pb sv' now' us' S2 kb lv mv qs ms := by
  have hz := hk.size
  refine ⟨andNew S W W', ⟨hg, h.g.bel.trans (hk.toBelow h.g.bel.size (fun k hh => (h.g.up k hh).1)), fun k hh => ?_⟩, h.k.ken hk (fun i hi => (h.ks i hi).1), fun i hi => ⟨fun hh => ?_, (h.ks i hi).2.1, Nat.lt_of_lt_of_le (h.ks i hi).2.2 hz⟩⟩
  · have hl := h.g.bel.size
    rcases hh with hh | ⟨h1, h2⟩
    · have := h.g.up k hh; omega
    · omega
  · rcases hh with hh | ⟨h1, h2⟩
    · exact (h.ks i hi).1 hh
    · have := (h.ks i hi).2; omega
theorem U9.gsame (h : U9 w W S gb pb sv now us S2 kb lv mv qs ms) (hk : Ken S W W') (hg : GmX W' S gb pb sv' now' us') : U9 w W' S gb pb sv' now' us' S2 kb lv mv qs ms :=
  ⟨h.g.same hk hg, h.k.ken hk (fun i hi => (h.ks i hi).1), fun i hi => ⟨(h.ks i hi).1, (h.ks i hi).2.1, Nat.lt_of_lt_of_le (h.ks i hi).2.2 hk.size⟩⟩
theorem U9.kmade (h : U9 w W S gb pb sv now us S2 kb lv mv qs ms) (hk : Ken S2 W W') (hg : KmX W' (andNew S2 W W') kb lv' mv' qs' ms') : ∃ S2', U9 w W' S gb pb sv now us S2' kb lv' mv' qs' ms' := by
  have hz := hk.size
  refine ⟨andNew S2 W W', ⟨h.g.gm.ken hk (fun i hi h2 => (h.ks i h2).1 hi), h.g.bel.trans (hk.toBelow h.g.bel.size (fun k hh => (h.ks k hh).2.1)), fun k hh => ⟨(h.g.up k hh).1, Nat.lt_of_lt_of_le (h.g.up k hh).2 hz⟩⟩, hg, fun i hi => ?_⟩
  have hl := h.g.bel.size
  rcases hi with hi | ⟨h1, h2⟩
  · exact ⟨(h.ks i hi).1, (h.ks i hi).2.1, Nat.lt_of_lt_of_le (h.ks i hi).2.2 hz⟩
  · exact ⟨fun hh => by have := (h.g.up i hh).2; omega, by omega, h2⟩
theorem U9.ksame (h : U9 w W S gb pb sv now us S2 kb lv mv qs ms) (hk : Ken S2 W W') (hg : KmX W' S2 kb lv' mv' qs' ms') : U9 w W' S gb pb sv now us S2 kb lv' mv' qs' ms' := by
  have hz := hk.size
  exact ⟨⟨h.g.gm.ken hk (fun i hi h2 => (h.ks i h2).1 hi), h.g.bel.trans (hk.toBelow h.g.bel.size (fun k hh => (h.ks k hh).2.1)), fun k hh => ⟨(h.g.up k hh).1, Nat.lt_of_lt_of_le (h.g.up k hh).2 hz⟩⟩, hg, fun i hi => ⟨(h.ks i hi).1, (h.ks i hi).2.1, Nat.lt_of_lt_of_le (h.ks i hi).2.2 hz⟩⟩
/-- .. and the box of the position that the reference tells. -/
structure V9 (w W : World) (S : Nat → Prop) (gb pb : Nat) (sv : Value) (now : Pos) (us : List Und) (S2 : Nat → Prop) (kb : Nat) (lv mv : Value) (qs : List Pos) (ms : List Mv) (nb : Nat) : Prop where
  u : U9 w W S gb pb sv now us S2 kb lv mv qs ms
  b : BoxP W nb now
theorem V9.below (h : V9 w W S gb pb sv now us S2 kb lv mv qs ms nb) (hb : Below W.heap.size W W') : V9 w W' S gb pb sv now us S2 kb lv mv qs ms nb := ⟨h.u.below hb, h.b.below hb⟩
theorem V9.drew (h : V9 w W S gb pb sv now us S2 kb lv mv qs ms nb) : V9 w W.drew S gb pb sv now us S2 kb lv mv qs ms nb := h.below (pw_below_drewN (Below.refl _ _) 1)
end
end Go.Proofs.YtgmlojocafepiaaGreatDoor.K

/- GamePlays: the walk. -/
namespace Go.Proofs.YtgmlojocafepiaaGreatDoor.K
open Go.RowKit Go.Lib Go.Proofs.YtgmlojocafepiaaGreatDoorW.PrintWords Go.Proofs.YtgmlojocafepiaaGreatDoor.Sp
set_option linter.unusedVariables false
set_option linter.unusedSimpArgs false
set_option maxRecDepth 100000 in
set_option maxHeartbeats 16000000 in
theorem gamePlaysLaw (w : World) (p : Pos) (a : Option Addr) (n cap : Nat) (O : Nat → Opi) (hmx : p.cells.size ≤ maxLen) (ha : OpsAt w a n O) (hT : TabW w) : Calls Tryz.prog 4 #[posV p, .slice a n cap] w fun e w' => e = .returned (.bool true) ∧ Below w.heap.size w w' := by
  have HT := Aside0.mk (fun (W : World) (hb : Below w.heap.size w W) => hT.below hb)
  have HLV := Aside0.mk (fun (W : World) (hT : TabW W) => live9_c W hT)
  have HM := Aside0.mk ha
  have hu := Tryz.underlying23
  have hu2 := Tryz.underlying32
  have HB0 := Aside0.mk (BoxP.new w p)
  have HL0 := Aside0.mk (below_alloc (Below.refl w.heap.size w) (.cells #[.string p.cells, .int .i64 p.side, .int .i64 p.clock, .int .i64 p.full] 23))
  by_cases hgd : 200 < p.cells.size ∨ 40 < n
  · rcases (show (200 : Int) < (p.cells.size : Int) ∨ (¬ (200 : Int) < (p.cells.size : Int) ∧ (40 : Int) < (n : Int)) by omega) with h1 | ⟨h1, h2⟩
    all_goals
      clear hgd hmx hT ha
      go_enter Tryz.func4, Tryz.ntmps4
      go_wp2_with fail
      refine (HLV.out _ (HT.out _ HL0.out)).mono ?_
      rintro e w1 ⟨rfl, hb⟩
      have HW1 := Aside0.mk (below_go HL0.out hb)
      clear hb
      go_wp2_with fail
      go_ret
      exact ⟨rfl, HW1.out⟩
  have h1 : ¬ ((200 : Int) < (p.cells.size : Int)) := by omega
  have h2 : ¬ ((40 : Int) < (n : Int)) := by omega
  have HN := Aside0.mk (fun (W : World) (hT : TabW W) => gnew_c p W hT)
  have HK := Aside0.mk (fun W => knew_c p hmx W)
  unfold NewIs at HN
  unfold KnewIs at HK
  by_cases hw : wellS p = 0
  case neg =>
    have HN2 : Aside0 (∀ (W : World), TabW W → Calls Tryz.prog 21 #[posV p] W fun e w' => e = .returned (.tuple #[.pointer none, .int .i64 (wellS p)]) ∧ Below W.heap.size W w') := ⟨fun W hT => (HN.out W hT).mono (fun e w' h => by rwa [if_pos hw] at h)⟩
    have HK2 : Aside0 (∀ (W : World), Calls Tryz.prog 22 #[posV p] W fun e w' => e = .returned (.tuple #[.pointer none, .int .i64 (wellS p)]) ∧ Below W.heap.size W w') := ⟨fun W => (HK.out W).mono (fun e w' h => by rwa [if_pos hw] at h)⟩
    generalize hx : wellS p = x at *
    clear hx hw HN HK hgd hmx hT ha
    go_enter Tryz.func4, Tryz.ntmps4
    go_upto_region 1 with fail
    generalize w.alloc (.cells #[.string p.cells, .int .i64 p.side, .int .i64 p.clock, .int .i64 p.full] 23) = W1 at *
    obtain ⟨e0, e1, e2, e3⟩ := HB0.out
    go_wp2_with fail
    refine (HN2.out _ (HT.out _ HL0.out)).mono ?_
    rintro e w1 ⟨rfl, hb⟩
    have HW1 := Aside0.mk (below_go HL0.out hb)
    have HB1 := Aside0.mk (HB0.out.below hb)
    clear hb e0 e1 e2 e3
    obtain ⟨e0, e1, e2, e3⟩ := HB1.out
    go_wp2_with fail
    refine (HK2.out _).mono ?_
    rintro e w2 ⟨rfl, hb⟩
    have HW2 := Aside0.mk (below_go HW1.out hb)
    clear hb e0 e1 e2 e3
    go_wp2_with fail
    go_loopg [9] 0 (fun gg s9 wr => s9 = .int .i64 0 ∧ Aside0 (Below w.heap.size w wr))
    case atStart => exact ⟨rfl, HW2⟩
    case round =>
      clear HW2
      obtain ⟨rfl, HW2⟩ := hrel
      by_cases hn0 : (0 : Int) < (n : Int)
      all_goals
        go_wp2_with fail
        refine (HLV.out _ (HT.out _ HW2.out)).mono ?_
        rintro e w3 ⟨rfl, hb⟩
        have HW3 := Aside0.mk (below_go HW2.out hb)
        clear hb
        go_wp2_with fail
        go_ret
        exact ⟨rfl, HW3.out⟩
  case pos =>
  have HN2 : Aside0 (∀ (W : World), TabW W → Calls Tryz.prog 21 #[posV p] W fun e w' => ∃ gb pb, e = .returned (.tuple #[.pointer (some ⟨gb, 0, none⟩), .int .i64 0]) ∧ GmX w' (newIn W w') gb pb (.slice none 0 0) p [] ∧ Below W.heap.size W w') := ⟨fun W hT => (HN.out W hT).mono (fun e w' h => by rwa [if_neg (by simpa using hw)] at h)⟩
  have HK2 : Aside0 (∀ (W : World), Calls Tryz.prog 22 #[posV p] W fun e w' => ∃ kb lv mv, e = .returned (.tuple #[.pointer (some ⟨kb, 0, none⟩), .int .i64 0]) ∧ KmX w' (newIn W w') kb lv mv [p] [] ∧ Below W.heap.size W w') := ⟨fun W => (HK.out W).mono (fun e w' h => by rwa [if_neg (by simpa using hw)] at h)⟩
  have HW := Aside0.mk hw
  have HN40 := Aside0.mk (show n ≤ 40 by omega)
  clear HN HK hw hgd hmx hT ha
  go_enter Tryz.func4, Tryz.ntmps4
  go_upto_region 1 with fail
  generalize w.alloc (.cells #[.string p.cells, .int .i64 p.side, .int .i64 p.clock, .int .i64 p.full] 23) = W1 at *
  obtain ⟨e0, e1, e2, e3⟩ := HB0.out
  go_wp2_with fail
  refine (HN2.out _ (HT.out _ HL0.out)).mono ?_
  rintro e w1 ⟨gb, pb, rfl, hg, hb⟩
  have hz : w.heap.size ≤ W1.heap.size := HL0.out.size
  obtain ⟨S, H1⟩ : ∃ S, Aside0 (G9 w w1 S gb pb (.slice none 0 0) p []) := ⟨newIn W1 w1, ⟨⟨hg, below_go HL0.out hb, fun k hk => ⟨Nat.le_trans hz hk.1, hk.2⟩⟩⟩⟩
  have HB1 := Aside0.mk (HB0.out.below hb)
  clear hg hb e0 e1 e2 e3 HB0 HL0 HN2 hz h1 h2
  obtain ⟨e0, e1, e2, e3⟩ := HB1.out
  go_wp2_with fail
  refine (HK2.out _).mono ?_
  rintro e w2 ⟨kb, lv, mv, rfl, hk, hb⟩
  have HU : Aside0 (U9 w w2 S gb pb (.slice none 0 0) p [] (newIn w1 w2) kb lv mv ([] ++ [p]) (mvU [])) := ⟨⟨H1.out.below hb, hk, fun i hi => ⟨fun hh => by have := (H1.out.up i hh).2; have := hi.1; omega, Nat.le_trans H1.out.bel.size hi.1, hi.2⟩⟩⟩
  generalize newIn w1 w2 = S2 at HU
  clear hk hb e0 e1 e2 e3 H1 HB1 HK2
  go_wp2_with fail
  go_loopg [9] n (fun gg s9 wr => ∃ (i : Nat) (S : Nat → Prop) (sv : Value) (now : Pos) (us : List Und) (S2 : Nat → Prop) (lv mv : Value) (ps : List Pos), s9 = .int .i64 (i : Int) ∧ i + gg = n ∧ Aside0 (U9 w wr S gb pb sv now us S2 kb lv mv (ps ++ [now]) (mvU us)) ∧ Aside0 (Plays ps us now ∧ us.length ≤ i))
  case atStart => exact ⟨0, S, _, p, [], S2, lv, mv, [], rfl, by omega, HU, ⟨⟨Plays.nil p HW.out, by simp⟩⟩⟩
  case round =>
    clear HU
    obtain ⟨i, S', sv, now, us, S2', lv', mv', ps, rfl, hi, HX, HI⟩ := hrel
    cases gk with
    | zero =>
      have hn : ¬ ((i : Int) < (n : Int)) := by omega
      clear hi HI
      go_wp2_with fail
      refine (HLV.out _ (HT.out _ HX.out.g.bel)).mono ?_
      rintro e w3 ⟨rfl, hb⟩
      have HW3 := Aside0.mk (below_go HX.out.g.bel hb)
      clear hb
      go_wp2_with fail
      go_ret
      exact ⟨rfl, HW3.out⟩
    | succ g =>
      have hn : (i : Int) < (n : Int) := by omega
      have hib : (i : Int) ≤ 40 := by have := HN40.out; omega
      have HIN := Aside0.mk (show i + 1 + g = n by omega)
      have HUL := Aside0.mk (show us.length ≤ 40 by have := HI.out.2; have := HN40.out; omega)
      obtain ⟨ga, o, rfl, hx⟩ := HM.out.resolve_left (by omega)
      have HMV := Aside0.mk (fun (W : World) (hb : Below w.heap.size w W) => (show W.cell? ⟨ga, o + i * 3, none⟩ = some (.bool (O i).back) ∧ W.cell? ⟨ga, o + i * 3 + 1, none⟩ = some (.int .i64 (O i).m.frm) ∧ W.cell? ⟨ga, o + i * 3 + 2, none⟩ = some (.int .i64 (O i).m.dest) from ⟨below_cell hb _ _ _ (hx i (by omega)).1, below_cell hb _ _ _ (hx i (by omega)).2.1, below_cell hb _ _ _ (hx i (by omega)).2.2⟩))
      clear hx hi
      generalize O i = op at *
      obtain ⟨back, m⟩ := op
      simp only at HMV
      obtain ⟨x0, x1, x2⟩ := HMV.out _ HX.out.g.bel
      go_upto_if 56 with fail
      go_cut [10] from 57 to 76 (fun s10 wx => s10 = .bool true ∧ ∃ (S : Nat → Prop) (sv : Value) (now : Pos) (us : List Und) (S2 : Nat → Prop) (lv mv : Value) (ps : List Pos), Aside0 (U9 w wx S gb pb sv now us S2 kb lv mv (ps ++ [now]) (mvU us)) ∧ Aside0 (Plays ps us now ∧ us.length ≤ i + 1))
      case first =>
        cases back with
        | true =>
          rcases List.eq_nil_or_concat us with rfl | ⟨us0, u, rfl⟩
          · go_wp2_with fail
            refine (gunmake_end HX.out.g.gm).mono ?_
            rintro e w4 ⟨rfl, rfl⟩
            go_wp2_with fail
            refine (runmake_end HX.out.k).mono ?_
            rintro e w5 ⟨rfl, rfl⟩
            go_wp2_with fail
            go_meet
            exact ⟨rfl, S', sv, now, [], S2', lv', mv', ps, HX, ⟨⟨HI.out.1, by simp⟩⟩⟩
          · rw [List.concat_eq_append] at *
            obtain ⟨ps', pp, rfl, hp0, hok, hck, hfl⟩ := HI.out.1.pop
            have HP0 := Aside0.mk hp0
            have HLN := Aside0.mk (show us0.length ≤ 40 ∧ us0.length ≤ i by have := HI.out.2; have := HUL.out; simp at *; omega)
            have HUN := Aside0.mk (gunmake_c S' gb pb sv pp now us0 u wr HX.out.g.gm hok hck hfl (by have := HLN.out; omega))
            have HRU := Aside0.mk (fun (W : World) (hk : KmX W S2' kb lv' mv' (ps' ++ [pp] ++ [now]) (mvU (us0 ++ [u]))) => runmake9 hk HP0.out.len (by have := HLN.out; omega))
            unfold UnIs at HUN
            clear hp0 hok hck hfl
            go_wp2_with fail
            refine HUN.out.mono ?_
            rintro e w4 ⟨sv4, rfl, hg, hk⟩
            have H4 := Aside0.mk (HX.out.gsame hk hg)
            clear hg hk
            go_wp2_with fail
            refine (HRU.out _ H4.out.k).mono ?_
            rintro e w5 ⟨lv5, mv5, rfl, hg, hk⟩
            have H5 := Aside0.mk (H4.out.ksame hk hg)
            clear hg hk
            go_wp2_with fail
            go_meet
            exact ⟨rfl, S', sv4, pp, us0, S2', lv5, mv5, ps', H5, ⟨⟨HP0.out, by have := HLN.out; omega⟩⟩⟩
        | false =>
          have HMK := Aside0.mk (fun (W : World) (hU : U9 w W S' gb pb sv now us S2' kb lv' mv' (ps ++ [now]) (mvU us)) => gmake_c S' gb pb sv now us m W hU.g.gm (HT.out _ hU.g.bel) HI.out.1.well (by have := HUL.out; omega))
          have HRK := Aside0.mk (fun (W : World) (hk : KmX W S2' kb lv' mv' (ps ++ [now]) (mvU us)) => rgmake9 S2' kb lv' mv' ps now us m W hk HI.out.1 (by have := HUL.out; omega))
          have HUI := Aside0.mk HI.out.2
          unfold MadeIs at HMK
          generalize stepMake now us m = r at *
          obtain ⟨r1, q, us2⟩ := r
          simp only at HMK HRK
          have HD := Aside0.mk HX.out.drew
          clear HX HI
          go_wp2_with fail
          go_region_held3 (fun V => V.cell? ⟨ga, o + i * 3 + 1, none⟩ = some (.int .i64 m.frm) ∧ V.cell? ⟨ga, o + i * 3 + 2, none⟩ = some (.int .i64 m.dest)) (go_keep)
            (first
              | (go_at_call 25; (with_reducible refine (HMK.out _ HD.out).mono ?_); rintro e w4 ⟨sv4, rfl, hg, hk⟩; obtain ⟨S4, h4⟩ := HD.out.gmade hk hg; have H4 := Aside0.mk h4; clear h4 hg hk HD x0 x1 x2; obtain ⟨x0, x1, x2⟩ := HMV.out _ H4.out.g.bel)
              | (go_at_call 26; (with_reducible refine (HRK.out _ H4.out.k).mono ?_); rintro e w5 ⟨ps5, lv5, mv5, rfl, hp5, hg, hk⟩; obtain ⟨S5, h5⟩ := H4.out.kmade hk hg; have H5 := Aside0.mk h5; have HP5 := Aside0.mk hp5; clear h5 hp5 hg hk H4 x0 x1 x2; obtain ⟨x0, x1, x2⟩ := HMV.out _ H5.out.g.bel))
          all_goals
            go_wp2_with fail
            go_meet
            exact ⟨rfl, _, _, _, _, _, _, _, _, H5, ⟨⟨HP5.out.1, by have := HP5.out.2; have := HUI.out; omega⟩⟩⟩
      case rest =>
        obtain ⟨rfl, S3, sv3, now3, us3, S23, lv3, mv3, ps3, HY, HJ⟩ := hcut
        have HUL3 := Aside0.mk (show us3.length ≤ 1024 by have := HJ.out.2; have := HN40.out; have := HIN.out; omega)
        have HUM := Aside0.mk (show (mvU us3).length ≤ 8100 by have := HUL3.out; simp [mvU]; omega)
        have HBD := Aside0.mk (argOk_yes (checkP_board (well_check HJ.out.1.well))).1
        have HRP0 := Aside0.mk (fun W => rpieces_c now3.cells HBD.out 0 (by omega) W)
        have HRP1 := Aside0.mk (fun W => rpieces_c now3.cells HBD.out 1 (by omega) W)
        clear HX HI HUL x0 x1 x2
        go_wp2_with fail
        refine (rnow_c HY.out.k (by rw [HJ.out.1.len]; exact HUL3.out)).mono ?_
        rintro e w4 ⟨rfl, hb⟩
        have hnb : Below w4.heap.size w4 (w4.alloc (.cells #[.string now3.cells, .int .i64 now3.side, .int .i64 now3.clock, .int .i64 now3.full] 23)) := below_alloc (Below.refl _ _) _
        have HV : Aside0 (V9 w (w4.alloc (.cells #[.string now3.cells, .int .i64 now3.side, .int .i64 now3.clock, .int .i64 now3.full] 23)) S3 gb pb sv3 now3 us3 S23 kb lv3 mv3 (ps3 ++ [now3]) (mvU us3) w4.heap.size) := ⟨⟨(HY.out.below hb).below hnb, BoxP.new w4 now3⟩⟩
        clear hb hnb HY
        go_upto_region 15 with fail
        generalize w4.alloc (.cells #[.string now3.cells, .int .i64 now3.side, .int .i64 now3.clock, .int .i64 now3.full] 23) = w5 at *
        generalize w4.heap.size = nb at *
        obtain ⟨Am, capm, hv⟩ := row_form HV.out.u.k.rm
        rw [show (mvU us3).length = us3.length from by simp [mvU]] at hv
        subst hv
        obtain ⟨e0, e1, e2, e3⟩ := HV.out.b
        have k1 := HV.out.u.k.k1
        have hne : ((us3.length : Int) != (us3.length : Int)) = false := by simp
        have HVD := Aside0.mk HV.out.drew
        clear HV
        go_region_held3 (fun V => V.cell? ⟨nb, 0, none⟩ = some (.string now3.cells) ∧ V.cell? ⟨nb, 1, none⟩ = some (.int .i64 now3.side) ∧ V.cell? ⟨nb, 2, none⟩ = some (.int .i64 now3.clock) ∧ V.cell? ⟨nb, 3, none⟩ = some (.int .i64 now3.full) ∧ V.cell? ⟨kb, 1, none⟩ = some (.slice Am us3.length capm)) (go_keep)
          (first
            | (go_at_call 28; (with_reducible refine (gpos_c HVD.out.u.g.gm).mono ?_); rintro e w11 ⟨rfl, hb⟩; have H11 := Aside0.mk (HVD.out.below hb); clear HVD hb e0 e1 e2 e3 k1; obtain ⟨e0, e1, e2, e3⟩ := H11.out.b; have k1 := H11.out.u.k.k1)
            | (go_at_call 29; (with_reducible refine (gplies_c H11.out.u.g.gm).mono ?_); rintro e w12 ⟨rfl, rfl⟩)
            | (go_at_call 31; (with_reducible refine (gpast_c H11.out.u.g.gm HUL3.out).mono ?_); rintro e w12 ⟨v, rfl, ho, hb⟩; have H12 := Aside0.mk (H11.out.below hb); have I12 := Aside0.mk ho.reads; obtain ⟨A12, c12, rfl⟩ := row_form ho; rw [show (mvU us3).length = us3.length from by simp [mvU]] at I12; have J12 : Aside0 (MvAt w12 0 (.slice Am us3.length capm) (mvU us3)) := ⟨OwnM.reads (B := 0) (l := mvU us3) H12.out.u.k.rm⟩; clear H11 ho hb e0 e1 e2 e3 k1; obtain ⟨e0, e1, e2, e3⟩ := H12.out.b; have k1 := H12.out.u.k.k1)
            | (go_at_call 30; (with_reducible refine (rsame_c (mvU us3) HUM.out _ _ _ _ _ I12.out J12.out).mono ?_); rintro e w13 ⟨rfl, hb⟩; have H13 := Aside0.mk (H12.out.below hb); clear H12 I12 J12 hb e0 e1 e2 e3 k1; obtain ⟨e0, e1, e2, e3⟩ := H13.out.b; have k1 := H13.out.u.k.k1)
            | (go_at_call 33; (with_reducible refine (gpieces0_c H13.out.u.g.gm (HT.out _ H13.out.u.g.bel) HBD.out).mono ?_); rintro e w14 ⟨v, rfl, ho, hb⟩; have H14 := Aside0.mk (H13.out.below hb); have I14 := Aside0.mk (ints_of ho); obtain ⟨A14, c14, rfl, _⟩ := (ints_of ho).out; clear H13 ho hb e0 e1 e2 e3 k1; obtain ⟨e0, e1, e2, e3⟩ := H14.out.b; have k1 := H14.out.u.k.k1)
            | (go_at_call 34; (with_reducible refine (HRP0.out _).mono ?_); rintro e w15 ⟨v, rfl, ho, hb⟩; have H15 := Aside0.mk (H14.out.below hb); have I15 := Aside0.mk (I14.out.below hb); have J15 := Aside0.mk ho; obtain ⟨A15, c15, rfl, _⟩ := ho.out; clear H14 I14 ho hb e0 e1 e2 e3 k1; obtain ⟨e0, e1, e2, e3⟩ := H15.out.b; have k1 := H15.out.u.k.k1)
            | (go_at_call 32; (with_reducible refine (ints_same I15.out J15.out (pieces_lt _ _).2).mono ?_); rintro e w16 ⟨rfl, hb⟩; have H16 := Aside0.mk (H15.out.below hb); clear H15 I15 J15 hb e0 e1 e2 e3 k1; obtain ⟨e0, e1, e2, e3⟩ := H16.out.b; have k1 := H16.out.u.k.k1)
            | (go_at_call 33; (with_reducible refine (gpieces1_c H16.out.u.g.gm (HT.out _ H16.out.u.g.bel) HBD.out).mono ?_); rintro e w17 ⟨v, rfl, ho, hb⟩; have H17 := Aside0.mk (H16.out.below hb); have I17 := Aside0.mk (ints_of ho); obtain ⟨A17, c17, rfl, _⟩ := (ints_of ho).out; clear H16 ho hb e0 e1 e2 e3 k1; obtain ⟨e0, e1, e2, e3⟩ := H17.out.b; have k1 := H17.out.u.k.k1)
            | (go_at_call 34; (with_reducible refine (HRP1.out _).mono ?_); rintro e w18 ⟨v, rfl, ho, hb⟩; have H18 := Aside0.mk (H17.out.below hb); have I18 := Aside0.mk (I17.out.below hb); have J18 := Aside0.mk ho; obtain ⟨A18, c18, rfl, _⟩ := ho.out; clear H17 I17 ho hb e0 e1 e2 e3 k1; obtain ⟨e0, e1, e2, e3⟩ := H18.out.b; have k1 := H18.out.u.k.k1)
            | (go_at_call 32; (with_reducible refine (ints_same I18.out J18.out (pieces_lt _ _).2).mono ?_); rintro e w19 ⟨rfl, hb⟩; have H19 := Aside0.mk (H18.out.below hb); clear H18 I18 J18 hb e0 e1 e2 e3 k1; obtain ⟨e0, e1, e2, e3⟩ := H19.out.b; have k1 := H19.out.u.k.k1))
        all_goals
          go_wp2_with fail
          go_roundg g
          case measure => omega
          case rel => exact ⟨i + 1, S3, sv3, now3, us3, S23, lv3, _, ps3, by go_num, HIN.out, ⟨H19.out.u⟩, ⟨⟨HJ.out.1, HJ.out.2⟩⟩⟩
end Go.Proofs.YtgmlojocafepiaaGreatDoor.K
