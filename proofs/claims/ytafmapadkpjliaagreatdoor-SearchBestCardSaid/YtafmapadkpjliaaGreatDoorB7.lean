/- Walks and plain laws that several statements lean on, joined: no statement of the seat is proved here. -/
import Derived.StillTailTactics
import Derived.Test.YtafmapadkpjliaaGreatDoorB6
import Derived.Test.YtafmapadkpjliaaGreatDoorB2
import Derived.Test.YtafmapadkpjliaaGreatDoorB5

/- Walks: check.isSide, Attackers. -/
namespace Go.Proofs.YtafmapadkpjliaaGreatDoor.K
open Go.RowKit Go.Lib Go.Proofs.YtafmapadkpjliaaGreatDoorW.PrintWords Go.Proofs.YtafmapadkpjliaaGreatDoor.Sp
set_option linter.unusedVariables false
set_option linter.unusedSimpArgs false
theorem isSide_c (a : Int) (w : World) : Calls Tryz.prog 131 #[.int .i64 a] w fun e w' => e = .returned (.bool (decide (a = 0 ∨ a = 1))) ∧ w' = w := by
  cases h0 : (a == 0)
  all_goals
    have H0 := Aside0.mk h0
    go_enter Tryz.func131, Tryz.ntmps131
    go_wp2_with fail
    go_ret
    refine ⟨ret_bool ?_, rfl⟩
    have h0 := H0.out
    rw [Bool.eq_iff_iff]; simp_all
/-- The file of anything. -/
def fileS (n : Int) : Int := if 0 ≤ n ∧ n < 90 then n % 9 else -1
theorem file_all (n : Int) (w : World) : Calls Tryz.prog 98 #[.int .i64 n] w fun e w' => e = .returned (.int .i64 (fileS n)) ∧ w' = w := by
  by_cases h : 0 ≤ n ∧ n < 90
  · have e1 : n = ((n.toNat : Nat) : Int) := by omega
    have := file_c n.toNat (by omega) w
    rw [← e1] at this
    rw [show fileS n = ((n.toNat % 9 : Nat) : Int) by unfold fileS; rw [if_pos h]; omega]
    exact this
  · rw [show fileS n = -1 from if_neg h]
    have HQ := isSquare_c n w
    rw [decide_eq_false h] at HQ
    have HQ := Aside0.mk HQ
    clear h
    go_enter Tryz.func98, Tryz.ntmps98
    go_wp2_with (first | (go_at_call 108; refine HQ.out.mono ?_; rintro e w' ⟨rfl, rfl⟩))
    go_ret
    exact ⟨rfl, rfl⟩
theorem att_closure (s : ByteArray) (n x : Int) (B1 B2 : Nat) (w : World) (c1 : w.cell? ⟨B1, 0, none⟩ = some (.string s)) (c2 : w.cell? ⟨B2, 0, none⟩ = some (.int .i64 n)) :
    Calls Tryz.prog 138 #[.int .i64 x, .pointer (some ⟨B1, 0, none⟩), .pointer (some ⟨B2, 0, none⟩)] w fun e w' => e = .returned (.bool (!canS s x n)) ∧ Below w.heap.size w w' := by
  have HC := Aside0.mk (fun W => can_c s x n W)
  generalize canS s x n = r at *
  go_enter Tryz.func138, Tryz.ntmps138
  go_wp2_with (go_at_call 139; refine (HC.out _).mono ?_; rintro e w1 ⟨rfl, hb⟩; have HB := Aside0.mk hb; clear hb)
  go_ret
  exact ⟨rfl, HB.out⟩
theorem att_del (s : ByteArray) (n : Int) (B1 B2 : Nat) (h12 : B1 < B2) (v : Value) (l : List Int) (W : World) (c1 : W.cell? ⟨B1, 0, none⟩ = some (.string s)) (c2 : W.cell? ⟨B2, 0, none⟩ = some (.int .i64 n)) (ho : OwnZ W (B2 + 1) v l) :
    Calls Tryz.prog 136 #[v, .func (.func 138) #[] #[.pointer (some ⟨B1, 0, none⟩), .pointer (some ⟨B2, 0, none⟩)]] W fun e w' => ∃ v', e = .returned v' ∧ OwnZ w' (B2 + 1) v' (l.filter (fun y => canS s y n)) ∧ Below (B2 + 1) W w' := by
  have := del_Z 138 #[.pointer (some ⟨B1, 0, none⟩), .pointer (some ⟨B2, 0, none⟩)] (fun y => !canS s y n) (enters_of Tryz.func138 (by kernel_rfl) rfl) (B2 + 1) v l W (World.block_lt_of_cell? W _ c2) ho (by
    intro b hb _ _ W2 y hy hk
    have key : ∀ g : Nat, g < W.heap.size → g ≠ b → W2.cell? ⟨g, 0, none⟩ = W.cell? ⟨g, 0, none⟩ := fun g hg hne => by
      have := hk.2 g hg hne (by simp)
      unfold World.cell?; simp only [this]
    exact att_closure s n y B1 B2 W2 ((key B1 (World.block_lt_of_cell? W _ c1) (by omega)).trans c1) ((key B2 (World.block_lt_of_cell? W _ c2) (by omega)).trans c2))
  simpa using this
/-- The other side's pawn. -/
def pawnO (a : Int) : Nat := if a = 0 then 112 else 80
def attS (s : ByteArray) (n a : Int) : List Nat := if (a = 0 ∨ a = 1) ∧ 0 ≤ n ∧ n < 90 then (piecesS (putS s n (pawnO a)) a).filter (fun f => canS (putS s n (pawnO a)) (f : Int) n) else []
/-- The boxes of Attackers. -/
structure AtAt (w0 W : World) (s : ByteArray) (n : Int) : Prop where
  c1 : W.cell? ⟨w0.heap.size, 0, none⟩ = some (.string s)
  c2 : W.cell? ⟨w0.heap.size + 1, 0, none⟩ = some (.int .i64 n)
  fz : W.frozen? ⟨w0.heap.size, 0, none⟩ = false
  bel : Below w0.heap.size w0 W
theorem AtAt.lt {w0 W : World} {s : ByteArray} {n : Int} (h : AtAt w0 W s n) : w0.heap.size + 1 < W.heap.size := World.block_lt_of_cell? W _ h.c2
theorem AtAt.below {w0 W W' : World} {s : ByteArray} {n : Int} (h : AtAt w0 W s n) (hb : Below W.heap.size W W') : AtAt w0 W' s n := by
  have := h.lt
  exact ⟨(hb.cell (p := ⟨w0.heap.size, 0, none⟩) (by show w0.heap.size < _; omega)).trans h.c1, (hb.cell (p := ⟨w0.heap.size + 1, 0, none⟩) (by show w0.heap.size + 1 < _; omega)).trans h.c2, (hb.frozen (p := ⟨w0.heap.size, 0, none⟩) (by show w0.heap.size < _; omega)).trans h.fz, h.bel.trans (hb.mono h.bel.size)⟩
theorem AtAt.new (w : World) (s : ByteArray) (n : Int) : AtAt w ((w.alloc (.cells #[.string s] 9)).alloc (.cells #[.int .i64 n] 3)) s n :=
  ⟨by simp [World.cell?_alloc_at, World.cell?_alloc_past], by simp [World.cell?_alloc_at], ((below_alloc (Below.refl (w.alloc (.cells #[.string s] 9)).heap.size _) _).frozen (p := ⟨w.heap.size, 0, none⟩) (by simp)).trans (World.frozen?_alloc_at _ _ _ 0 rfl), below_alloc (below_alloc (Below.refl _ _) _) _⟩
theorem AtAt.put {w0 W : World} {s : ByteArray} {n : Int} (h : AtAt w0 W s n) (t : ByteArray) : AtAt w0 (W.setCell ⟨w0.heap.size, 0, none⟩ (.string t)) t n := by
  have h1 := h.c1
  have h2 := h.c2
  have h3 := h.fz
  exact ⟨by simp [go_sem, h1], by simp [go_sem, h2], by simp [go_sem, h3], h.bel.setCell (p := ⟨w0.heap.size, 0, none⟩) (Nat.le_refl _) _⟩
set_option maxRecDepth 100000 in
set_option maxHeartbeats 2000000 in
theorem att_no (s : ByteArray) (n a : Int) (h : ¬ ((a = 0 ∨ a = 1) ∧ 0 ≤ n ∧ n < 90)) (w : World) : Calls Tryz.prog 100 #[.string s, .int .i64 n, .int .i64 a] w fun e w' => ∃ v, e = .returned v ∧ IntsAt w' w.heap.size v [] ∧ Below w.heap.size w w' := by
  have HS := Aside0.mk (fun W => isSide_c a W)
  have HF := Aside0.mk (fun W => file_all n W)
  have HA := Aside0.mk (AtAt.new w s n)
  have HV := Aside0.mk (fun (W : World) => ints_of (l := []) (own_znil W w.heap.size))
  cases ha : decide (a = 0 ∨ a = 1) with
  | false =>
    rw [ha] at HS
    clear h ha
    go_enter Tryz.func100, Tryz.ntmps100
    go_wp2_with (go_at_call 131; refine (HS.out _).mono ?_; rintro e w1 ⟨rfl, rfl⟩)
    go_ret
    exact ⟨_, rfl, HV.out _, HA.out.bel⟩
  | true =>
    rw [ha] at HS
    have hf : fileS n = -1 := if_neg fun hn => h ⟨of_decide_eq_true ha, hn⟩
    rw [hf] at HF
    clear h ha hf
    go_enter Tryz.func100, Tryz.ntmps100
    go_wp2_with (first | (go_at_call 131; refine (HS.out _).mono ?_; rintro e w1 ⟨rfl, rfl⟩) | (go_at_call 98; refine (HF.out _).mono ?_; rintro e w1 ⟨rfl, rfl⟩))
    go_ret
    exact ⟨_, rfl, HV.out _, HA.out.bel⟩
end Go.Proofs.YtafmapadkpjliaaGreatDoor.K

/- Walks: Attackers, of squares. -/
namespace Go.Proofs.YtafmapadkpjliaaGreatDoor.K
open Go.RowKit Go.Lib Go.Proofs.YtafmapadkpjliaaGreatDoorW.PrintWords Go.Proofs.YtafmapadkpjliaaGreatDoor.Sp
set_option linter.unusedVariables false
set_option linter.unusedSimpArgs false
set_option maxRecDepth 100000 in
set_option maxHeartbeats 2000000 in
theorem att_yes (s : ByteArray) (n : Nat) (hn : n < 90) (a : Int) (ha : a = 0 ∨ a = 1) (w : World) (hT : TabW w) : Calls Tryz.prog 100 #[.string s, .int .i64 (n : Int), .int .i64 a] w fun e w' => ∃ v, e = .returned v ∧ IntsAt w' w.heap.size v (attS s (n : Int) a) ∧ Below w.heap.size w w' := by
  have HT := Aside0.mk (fun (W : World) (hb : Below w.heap.size w W) => hT.below hb)
  have HE := Aside0.mk (show attS s (n : Int) a = (piecesS (putS s n (pawnO a)) a).filter (fun f : Nat => canS (putS s n (pawnO a)) (f : Int) n) from if_pos ⟨ha, by omega, by omega⟩)
  have HA := Aside0.mk (AtAt.new w s n)
  have HS := Aside0.mk (fun W => isSide_c a W)
  rw [decide_eq_true ha] at HS
  have HF := Aside0.mk (fun W => file_c n hn W)
  have HP := Aside0.mk (fun W => put_c s n (pawnO a) (by unfold pawnO; split <;> omega) W)
  have HPC := Aside0.mk (fun (W : World) (hT : TabW W) => pieces_c (putS s n (pawnO a)) a W hT)
  have HD := Aside0.mk (fun (B1 B2 : Nat) (h12 : B1 < B2) (v : Value) (l : List Int) (W : World) c1 c2 ho => att_del (putS s n (pawnO a)) (n : Int) B1 B2 h12 v l W c1 c2 ho)
  have HM := Aside0.mk (show ∀ l : List Nat, (ints l).filter (fun y => canS (putS s n (pawnO a)) y n) = ints (l.filter (fun f : Nat => canS (putS s n (pawnO a)) (f : Int) n)) from fun l => by unfold ints; rw [List.filter_map]; rfl)
  have f0 : ¬ (((n % 9 : Nat) : Int) < 0) := by omega
  generalize n % 9 = nf at *
  have hc : (a = 0 ∧ pawnO a = 112) ∨ (a = 1 ∧ pawnO a = 80) := by
    rcases ha with h | h <;> subst h
    · exact .inl ⟨rfl, rfl⟩
    · exact .inr ⟨rfl, rfl⟩
  clear hT hn ha
  generalize putS s n (pawnO a) = t at *
  rcases hc with ⟨rfl, hp⟩ | ⟨rfl, hp⟩
  all_goals
    rw [hp] at HP
    clear hp
    go_enter Tryz.func100, Tryz.ntmps100
    obtain ⟨c1, c2, fz, _⟩ := HA.out
    go_upto_region 3 with (first | (go_at_call 131; refine (HS.out _).mono ?_; rintro e w1 ⟨rfl, rfl⟩) | (go_at_call 98; refine (HF.out _).mono ?_; rintro e w1 ⟨rfl, rfl⟩))
    generalize (w.alloc (.cells #[.string s] 9)).alloc (.cells #[.int .i64 (n : Int)] 3) = w2 at *
    go_still_tail 4, (by kernel_rfl)
    change wpList _ _ _ _ _ w2.drew
    have HA2 := Aside0.mk (HA.out.below (pw_below_drewN (Below.refl _ _) 1))
    change Aside0 (AtAt w w2.drew s (n : Int)) at HA2
    clear HA c1 c2 fz
    generalize w2.drew = w3 at *
    go_upto_region 4 with (first
      | (go_at_call 135; refine (HP.out _).mono ?_; rintro e w4 ⟨rfl, hb⟩; have HA4 := Aside0.mk (HA2.out.below hb); clear hb; obtain ⟨c1, c2, fz, _⟩ := HA4.out))
    have HA5 := Aside0.mk (HA4.out.put t)
    clear c1 c2 fz HA4 HA2 HP
    generalize w4.setCell ⟨w.heap.size, 0, none⟩ (.string t) = w5 at *
    obtain ⟨c1, c2, fz, _⟩ := HA5.out
    go_wp2_with (first
      | (go_at_call 137; refine (HPC.out _ (HT.out _ HA5.out.bel)).mono ?_; rintro e w6 ⟨v6, rfl, ho, hb⟩; have HA6 := Aside0.mk (HA5.out.below hb); have HO6 := Aside0.mk (ho.lower (B' := w.heap.size + 1 + 1) HA5.out.lt); clear ho hb)
      | (go_at_call 136; refine (HD.out _ _ (Nat.lt_succ_self _) _ _ _ HA6.out.c1 HA6.out.c2 HO6.out).mono ?_; rintro e w7 ⟨v7, rfl, ho, hb⟩; have HO7 := Aside0.mk (ho.lower (B' := w.heap.size) (by omega)); have HB7 := Aside0.mk (HA6.out.bel.trans (hb.mono (by omega))); clear ho hb))
    go_ret
    have ho := HO7.out
    rw [HM.out] at ho
    rw [HE.out]
    exact ⟨_, rfl, ints_of ho, HB7.out⟩
theorem att_c (s : ByteArray) (n a : Int) (w : World) (hT : TabW w) : Calls Tryz.prog 100 #[.string s, .int .i64 n, .int .i64 a] w fun e w' => ∃ v, e = .returned v ∧ IntsAt w' w.heap.size v (attS s n a) ∧ Below w.heap.size w w' := by
  by_cases h : (a = 0 ∨ a = 1) ∧ 0 ≤ n ∧ n < 90
  · have e1 : n = ((n.toNat : Nat) : Int) := by omega
    have := att_yes s n.toNat (by omega) a h.1 w hT
    rw [← e1] at this
    exact this
  · rw [show attS s n a = [] from if_neg h]
    exact att_no s n a h w
end Go.Proofs.YtafmapadkpjliaaGreatDoor.K

/- Walks: General, Facing, In. -/
namespace Go.Proofs.YtafmapadkpjliaaGreatDoor.K
open Go.RowKit Go.Lib Go.Proofs.YtafmapadkpjliaaGreatDoorW.PrintWords Go.Proofs.YtafmapadkpjliaaGreatDoor.Sp
set_option linter.unusedVariables false
set_option linter.unusedSimpArgs false
def kingO (a : Int) : Nat := if a = 0 then 75 else 107
def hdZ : List Nat → Int
  | [] => -1
  | n :: _ => n
def genS (s : ByteArray) (a : Int) : Int := if a = 0 ∨ a = 1 then hdZ (findS s (kingO a)) else -1
theorem findS_len (s : ByteArray) (c : Nat) : (findS s c).length ≤ 90 := by
  unfold findS
  split
  · refine Nat.le_trans (List.length_filter_le _ _) ?_
    simp
  · simp
theorem findS_lt (s : ByteArray) (c : Nat) : ∀ n ∈ findS s c, n < 90 ∧ isBoard s = true ∧ cel s n = c := by
  intro n hn
  unfold findS at hn
  split at hn
  · rename_i h
    obtain ⟨h1, h2⟩ := List.mem_filter.1 hn
    exact ⟨List.mem_range.1 h1, h, of_decide_eq_true h2⟩
  · simp at hn
set_option maxRecDepth 100000 in
set_option maxHeartbeats 2000000 in
theorem gen_c (s : ByteArray) (a : Int) (w : World) (hT : TabW w) : Calls Tryz.prog 97 #[.string s, .int .i64 a] w fun e w' => e = .returned (.int .i64 (genS s a)) ∧ Below w.heap.size w w' := by
  have HS := Aside0.mk (fun W => isSide_c a W)
  by_cases ha : a = 0 ∨ a = 1
  case neg =>
    rw [show genS s a = -1 from if_neg ha]
    rw [decide_eq_false ha] at HS
    have HB := Aside0.mk (Below.refl w.heap.size w)
    clear ha hT
    go_enter Tryz.func97, Tryz.ntmps97
    go_wp2_with (go_at_call 131; refine (HS.out _).mono ?_; rintro e w1 ⟨rfl, rfl⟩)
    go_ret
    exact ⟨rfl, HB.out⟩
  case pos =>
    rw [decide_eq_true ha] at HS
    have HG := Aside0.mk (show genS s a = hdZ (findS s (kingO a)) from if_pos ha)
    have HF := Aside0.mk (find_c s (kingO a) w hT)
    have HL := Aside0.mk (findS_len s (kingO a))
    have hc : (a = 0 ∧ kingO a = 75) ∨ (a = 1 ∧ kingO a = 107) := by
      rcases ha with h | h <;> subst h
      · exact .inl ⟨rfl, rfl⟩
      · exact .inr ⟨rfl, rfl⟩
    clear ha hT
    generalize findS s (kingO a) = l at *
    generalize hgen : genS s a = gn at *
    clear hgen
    rcases hc with ⟨rfl, hp⟩ | ⟨rfl, hp⟩
    all_goals
      rw [hp] at HF
      clear hp
      go_enter Tryz.func97, Tryz.ntmps97
      go_upto_region 4 with (first
        | (go_at_call 131; refine (HS.out _).mono ?_; rintro e w1 ⟨rfl, rfl⟩)
        | (go_at_call 132; refine HF.out.mono ?_; rintro e w2 ⟨v, rfl, ho, hb⟩; have HB := Aside0.mk hb; have HV := Aside0.mk (ints_of ho); obtain ⟨A, cap, hv, _⟩ := (ints_of ho).out; subst hv; clear ho hb))
      go_loopg [15] 1 (fun gg s15 wr => s15 = .int .i64 0 ∧ wr = w2)
      case atStart => exact ⟨rfl, rfl⟩
      case round =>
        obtain ⟨rfl, rfl⟩ := hrel
        cases l with
        | nil =>
          have z : ¬ ((0 : Int) < ((([] : List Nat).length : Nat) : Int)) := by simp
          go_wp2_with fail
          go_ret
          exact ⟨ret_int HG.out.symm, HB.out⟩
        | cons n tl =>
          obtain ⟨A', cap', hv, hcap, hx⟩ := HV.out.out
          simp only [Value.slice.injEq, true_and] at hv
          obtain ⟨rfl, rfl⟩ := hv
          obtain ⟨g, rfl, _, _, hcell⟩ := hx.resolve_left (by simp)
          have hc0 := hcell 0 (by simp)
          rw [List.getElem_cons_zero] at hc0
          have z : (0 : Int) < (((n :: tl).length : Nat) : Int) := by rw [List.length_cons]; omega
          have z2 : (0 : Int) < ((tl.length : Nat) : Int) + 1 := by omega
          have hl := HL.out
          clear hcell hx hcap HV
          go_wp2_with fail
          go_ret
          exact ⟨ret_int HG.out.symm, HB.out⟩
/-- Facing. -/
def facS (s : ByteArray) : Bool := decide (0 ≤ genS s 0) && (decide (0 ≤ genS s 1) && ((fileS (genS s 0) == fileS (genS s 1)) && (betwS s (genS s 0) (genS s 1) == 0)))
set_option maxRecDepth 100000 in
set_option maxHeartbeats 2000000 in
theorem fac_c (s : ByteArray) (w : World) (hT : TabW w) : Calls Tryz.prog 61 #[.string s] w fun e w' => e = .returned (.bool (facS s)) ∧ Below w.heap.size w w' := by
  have HT := Aside0.mk (fun (W : World) (hb : Below w.heap.size w W) => hT.below hb)
  have HG0 := Aside0.mk (gen_c s 0 w hT)
  have HG1 := Aside0.mk (fun (W : World) (hT : TabW W) => gen_c s 1 W hT)
  have HF0 := Aside0.mk (fun W => file_all (genS s 0) W)
  have HF1 := Aside0.mk (fun W => file_all (genS s 1) W)
  have HB2 := Aside0.mk (fun W => betw_c s (genS s 0) (genS s 1) W)
  unfold facS
  generalize betwS s (genS s 0) (genS s 1) = bt at *
  generalize genS s 0 = a at *
  generalize genS s 1 = b at *
  generalize fileS a = fa at *
  generalize fileS b = fb at *
  clear hT
  cases h0 : decide (0 ≤ a)
  all_goals cases h1 : decide (0 ≤ b)
  all_goals cases h2 : (fa == fb)
  all_goals cases h3 : (bt == 0)
  all_goals
    go_enter Tryz.func61, Tryz.ntmps61
    go_wp2_with (first
      | (go_at_call 97; (with_reducible refine HG0.out.mono ?_); rintro e w1 ⟨rfl, hb⟩; have HB := Aside0.mk hb; clear hb)
      | (go_at_call 97; (with_reducible refine (HG1.out _ (HT.out _ HB.out)).mono ?_); rintro e w2 ⟨rfl, hb⟩; have HC := Aside0.mk (HB.out.trans (hb.mono HB.out.size)); clear hb)
      | (go_at_call 98; (with_reducible refine (HF0.out _).mono ?_); rintro e w3 ⟨rfl, rfl⟩)
      | (go_at_call 98; (with_reducible refine (HF1.out _).mono ?_); rintro e w3 ⟨rfl, rfl⟩)
      | (go_at_call 99; refine (HB2.out _).mono ?_; rintro e w4 ⟨rfl, hb⟩; have HD := Aside0.mk (HC.out.trans (hb.mono HC.out.size)); clear hb))
    go_ret
    first | exact ⟨by simp_all, HD.out⟩ | exact ⟨by simp_all, HC.out⟩
end Go.Proofs.YtafmapadkpjliaaGreatDoor.K

/- Walks: In, Well. -/
namespace Go.Proofs.YtafmapadkpjliaaGreatDoor.K
open Go.RowKit Go.Lib Go.Proofs.YtafmapadkpjliaaGreatDoorW.PrintWords Go.Proofs.YtafmapadkpjliaaGreatDoor.Sp
set_option linter.unusedVariables false
set_option linter.unusedSimpArgs false
def inS (s : ByteArray) (a : Int) : Bool := decide (0 ≤ genS s a) && decide (0 < (attS s (genS s a) (1 - a)).length)
theorem attS_len (s : ByteArray) (n a : Int) : (attS s n a).length ≤ 90 := by
  unfold attS
  split
  · refine Nat.le_trans (List.length_filter_le _ _) ?_
    unfold piecesS
    split
    · refine Nat.le_trans (List.length_filter_le _ _) ?_
      simp
    · simp
  · simp
set_option maxRecDepth 100000 in
set_option maxHeartbeats 2000000 in
theorem in_c (s : ByteArray) (a : Int) (w : World) (hT : TabW w) : Calls Tryz.prog 62 #[.string s, .int .i64 a] w fun e w' => e = .returned (.bool (inS s a)) ∧ Below w.heap.size w w' := by
  have HT := Aside0.mk (fun (W : World) (hb : Below w.heap.size w W) => hT.below hb)
  have HG := Aside0.mk (gen_c s a w hT)
  have HA := Aside0.mk (fun (W : World) (hT : TabW W) => att_c s (genS s a) (1 - a) W hT)
  have HE := Aside0.mk (show inS s a = (decide (0 ≤ genS s a) && decide (0 < (attS s (genS s a) (1 - a)).length)) from rfl)
  clear hT
  cases h0 : decide (0 ≤ genS s a)
  case false =>
    rw [h0] at HE
    have hn := of_decide_eq_false h0
    generalize genS s a = g at *
    clear HA
    go_enter Tryz.func62, Tryz.ntmps62
    go_wp2_with (go_at_call 97; refine HG.out.mono ?_; rintro e w1 ⟨rfl, hb⟩; have HB := Aside0.mk hb; clear hb)
    go_ret
    exact ⟨by rw [HE.out]; rfl, HB.out⟩
  case true =>
    rw [h0] at HE
    have hn := of_decide_eq_true h0
    have ha : a = 0 ∨ a = 1 := by
      by_cases ha : a = 0 ∨ a = 1
      · exact ha
      · unfold genS at hn; rw [if_neg ha] at hn; omega
    have a0 : 0 ≤ a := by omega
    have a1 : a ≤ 1 := by omega
    have hl := attS_len s (genS s a) (1 - a)
    generalize attS s (genS s a) (1 - a) = l at *
    generalize genS s a = g at *
    have HL := Aside0.mk hl
    have hl2 : (l.length : Int) ≤ 90 := by omega
    generalize hb1 : (1 - a : Int) = b at *
    clear hl ha h0
    go_enter Tryz.func62, Tryz.ntmps62
    go_wp2_with (first
      | (go_at_call 97; refine HG.out.mono ?_; rintro e w1 ⟨rfl, hb⟩; have HB := Aside0.mk hb; clear hb)
      | (go_at_call 100; refine (HA.out _ (HT.out _ HB.out)).mono ?_; rintro e w2 ⟨v, rfl, hv, hb⟩; have HC := Aside0.mk (HB.out.trans (hb.mono HB.out.size)); clear hb; obtain ⟨A, cap, hv', _⟩ := hv.out; subst hv'; clear hv))
    go_ret
    refine ⟨ret_bool ?_, HC.out⟩
    rw [HE.out]
    first | (simp; done) | (simp; omega)
/-- What is wrong with a position. -/
def wellS (p : Pos) : Int := if checkP p ≠ 0 then checkP p else if facS p.cells = true then 4 else if inS p.cells (1 - p.side) = true then 5 else 0
/-- The box of Well's argument. -/
structure WeAt (w0 W : World) (p : Pos) : Prop where
  c0 : W.cell? ⟨w0.heap.size, 0, none⟩ = some (.string p.cells)
  c1 : W.cell? ⟨w0.heap.size, 1, none⟩ = some (.int .i64 p.side)
  c2 : W.cell? ⟨w0.heap.size, 2, none⟩ = some (.int .i64 p.clock)
  c3 : W.cell? ⟨w0.heap.size, 3, none⟩ = some (.int .i64 p.full)
  bel : Below w0.heap.size w0 W
theorem WeAt.below {w0 W W' : World} {p : Pos} (h : WeAt w0 W p) (hb : Below W.heap.size W W') : WeAt w0 W' p := by
  have hl := World.block_lt_of_cell? W _ h.c0
  exact ⟨(hb.cell (p := ⟨w0.heap.size, 0, none⟩) hl).trans h.c0, (hb.cell (p := ⟨w0.heap.size, 1, none⟩) hl).trans h.c1, (hb.cell (p := ⟨w0.heap.size, 2, none⟩) hl).trans h.c2, (hb.cell (p := ⟨w0.heap.size, 3, none⟩) hl).trans h.c3, h.bel.trans (hb.mono h.bel.size)⟩
theorem WeAt.new (w : World) (p : Pos) : WeAt w (w.alloc (.cells #[.string p.cells, .int .i64 p.side, .int .i64 p.clock, .int .i64 p.full] 23)) p :=
  ⟨by simp [World.cell?_alloc_at], by simp [World.cell?_alloc_at], by simp [World.cell?_alloc_at], by simp [World.cell?_alloc_at], below_alloc (Below.refl _ _) _⟩
set_option maxRecDepth 100000 in
set_option maxHeartbeats 2000000 in
theorem well_c (p : Pos) (w : World) (hT : TabW w) : Calls Tryz.prog 35 #[posV p] w fun e w' => e = .returned (.int .i64 (wellS p)) ∧ Below w.heap.size w w' := by
  have HT := Aside0.mk (fun (W : World) (hb : Below w.heap.size w W) => hT.below hb)
  have HK := Aside0.mk (fun W => check_c p W)
  have HF := Aside0.mk (fun (W : World) (hT : TabW W) => fac_c p.cells W hT)
  have HI := Aside0.mk (fun (W : World) (hT : TabW W) => in_c p.cells (1 - p.side) W hT)
  have HE := Aside0.mk (show wellS p = if checkP p ≠ 0 then checkP p else if facS p.cells = true then 4 else if inS p.cells (1 - p.side) = true then 5 else 0 from rfl)
  have hu := Tryz.underlying23
  have HW := Aside0.mk (WeAt.new w p)
  clear hT
  by_cases hck : checkP p = 0
  case neg =>
    have h2 : (checkP p != 0) = true := by simpa using hck
    rw [if_pos hck] at HE
    clear hck HF HI
    generalize checkP p = ck at *
    go_enter Tryz.func35, Tryz.ntmps35
    go_wp2_with (go_at_call 60; refine (HK.out _).mono ?_; rintro e w1 ⟨rfl, hb⟩; have HB := Aside0.mk (HW.out.bel.trans (hb.mono HW.out.bel.size)); clear hb)
    go_ret
    exact ⟨ret_int HE.out.symm, HB.out⟩
  case pos =>
    rw [if_neg (by simpa using hck)] at HE
    have hsd : p.side = 0 ∨ p.side = 1 := by
      cases hok : argOk p
      · unfold checkP at hck; rw [hok] at hck; simp at hck
      · exact (argOk_yes hok).2.1
    have a0 : 0 ≤ p.side := by omega
    have a1 : p.side ≤ 1 := by omega
    rw [hck] at HK
    clear hck hsd
    generalize hb1 : (1 - p.side : Int) = b at *
    cases hf : facS p.cells
    case true =>
      rw [hf] at HF HE
      clear HI hf
      go_enter Tryz.func35, Tryz.ntmps35
      go_wp2_with (first
        | (go_at_call 60; refine (HK.out _).mono ?_; rintro e w1 ⟨rfl, hb⟩; have HB := Aside0.mk (HW.out.below hb); clear hb; obtain ⟨c0, c1, _⟩ := HB.out)
        | (go_at_call 61; refine (HF.out _ (HT.out _ HB.out.bel)).mono ?_; rintro e w2 ⟨rfl, hb⟩; have HC := Aside0.mk (HB.out.below hb); clear hb c0 c1))
      go_ret
      exact ⟨ret_int (by rw [HE.out]; rfl), HC.out.bel⟩
    case false =>
      rw [hf] at HF HE
      cases hi : inS p.cells b
      all_goals
        rw [hi] at HI HE
        clear hf hi
        go_enter Tryz.func35, Tryz.ntmps35
        go_wp2_with (first
          | (go_at_call 60; refine (HK.out _).mono ?_; rintro e w1 ⟨rfl, hb⟩; have HB := Aside0.mk (HW.out.below hb); clear hb; obtain ⟨c0, c1, _⟩ := HB.out)
          | (go_at_call 61; refine (HF.out _ (HT.out _ HB.out.bel)).mono ?_; rintro e w2 ⟨rfl, hb⟩; have HC := Aside0.mk (HB.out.below hb); clear hb c0 c1; obtain ⟨c0, c1, _⟩ := HC.out)
          | (go_at_call 62; refine (HI.out _ (HT.out _ HC.out.bel)).mono ?_; rintro e w3 ⟨rfl, hb⟩; have HD := Aside0.mk (HC.out.below hb); clear hb c0 c1))
        go_ret
        exact ⟨ret_int (by rw [HE.out]; rfl), HD.out.bel⟩
end Go.Proofs.YtafmapadkpjliaaGreatDoor.K

/- Walks: the reference's Find. -/
namespace Go.Proofs.YtafmapadkpjliaaGreatDoor.K
open Go.RowKit Go.Lib Go.Proofs.YtafmapadkpjliaaGreatDoorW.PrintWords Go.Proofs.YtafmapadkpjliaaGreatDoor.Sp
set_option linter.unusedVariables false
set_option linter.unusedSimpArgs false
attribute [local go_sem] cel_get   -- for this text's walks alone
def flatI (l : List Nat) : List Value := l.map (fun (n : Nat) => Value.int .i64 (n : Int))
theorem flatI_append (l : List Nat) (x : Nat) : flatI (l ++ [x]) = flatI l ++ [.int .i64 (x : Int)] := by simp [flatI]
/-- A row of numbers of the call's own, from block B on. -/
def OwnI (W : World) (B : Nat) (v : Value) (l : List Nat) : Prop := W.ownsRow B 3 1 v l.length (flatI l)
theorem OwnI.below {W W' : World} {B : Nat} {v : Value} {l : List Nat} (h : OwnI W B v l) (hb : Below W.heap.size W W') : OwnI W' B v l := pw_own_below h hb
theorem OwnI.lower {W : World} {B B' : Nat} {v : Value} {l : List Nat} (h : OwnI W B v l) (hb : B' ≤ B) : OwnI W B' v l := by
  obtain ⟨h1, h2 | ⟨g, cap, cur, h2, h3, h4⟩⟩ := h
  · exact ⟨h1, .inl h2⟩
  · exact ⟨h1, .inr ⟨g, cap, cur, h2, Nat.le_trans hb h3, h4⟩⟩
/-- Its length stands in it. -/
theorem OwnI.form {W : World} {B : Nat} {v : Value} {l : List Nat} (h : OwnI W B v l) : ∃ A cap, v = .slice A l.length cap := by
  obtain ⟨h1, ⟨h2, h3⟩ | ⟨g, cap, cur, h2, h3, h4⟩⟩ := h
  · exact ⟨none, 0, by rw [h2, h3]⟩
  · exact ⟨_, _, h2⟩
theorem info_int : (Tryz.prog.info? 3).map (fun i => (i.zero, i.size, i.bytes)) = some (some (.int .i64 0), 1, 8) := by kernel_rfl
/-- The squares, of the first n, that hold x. -/
def findL (s : ByteArray) (x n : Nat) : List Nat := (List.range n).filter (fun i => cel s i == x)
theorem findL_succ (s : ByteArray) (x n : Nat) : findL s x (n + 1) = findL s x n ++ (if cel s n = x then [n] else []) := by
  unfold findL
  rw [List.range_succ, List.filter_append]
  congr 1
  split <;> simp_all
theorem findL_len (s : ByteArray) (x n : Nat) : (findL s x n).length = cntX s n x := by
  unfold findL cntX; rw [List.countP_eq_length_filter]
def findN (s : ByteArray) (x : Nat) : List Nat := if isBoard s = true then findL s x 90 else []
/-- What Find's loop keeps. -/
structure FindAt (w0 W : World) (v : Value) (l : List Nat) : Prop where
  own : OwnI W w0.heap.size v l
  bel : Below w0.heap.size w0 W
theorem FindAt.below {w0 W W' : World} {v : Value} {l : List Nat} (h : FindAt w0 W v l) (hb : Below W.heap.size W W') : FindAt w0 W' v l :=
  ⟨h.own.below hb, h.bel.trans (hb.mono h.bel.size)⟩
theorem FindAt.grown {w0 W W1 : World} {v v1 : Value} {l l1 : List Nat} (h : FindAt w0 W v l) (hg : W.grownBy W1 v.ownBlock) (ho : OwnI W1 w0.heap.size v1 l1) : FindAt w0 W1 v1 l1 :=
  ⟨ho, h.bel.grown hg h.bel.size (fun k hk => (h.own.lt k hk).1)⟩
set_option maxRecDepth 100000 in
set_option maxHeartbeats 4000000 in
theorem rfind_c (s : ByteArray) (hmx : s.size ≤ maxLen) (x : Nat) (hx : x < 256) (w : World) :
    Calls Tryz.prog 57 #[.string s, .int .u8 (x : Int)] w fun e w' => ∃ v, e = .returned v ∧ OwnI w' w.heap.size v (findN s x) ∧ Below w.heap.size w w' := by
  have HIS := Aside0.mk (fun W => ris_c s hmx W)
  clear hmx
  cases hs : isBoard s
  case false =>
    rw [show findN s x = [] by unfold findN; rw [hs]; rfl]
    rw [hs] at HIS
    clear hs
    go_enter Tryz.func57, Tryz.ntmps57
    go_wp2_with fail
    refine (HIS.out _).mono ?_
    rintro e w1 ⟨rfl, rfl⟩
    go_wp2_with fail
    go_ret
    exact ⟨_, rfl, own_nil _ _ _ _, Below.refl _ _⟩
  case true =>
  have HR := Aside0.mk (show findN s x = findL s x 90 by unfold findN; rw [hs]; rfl)
  have HSZ := Aside0.mk (board_size hs)
  rw [hs] at HIS
  clear hs
  obtain ⟨i0, hi0, hx0⟩ := Option.map_eq_some_iff.1 info_int
  simp only [Prod.mk.injEq] at hx0
  have HZ := Aside0.mk (⟨hi0, hx0⟩ : _ ∧ _)
  clear hx0 hi0
  have hsz : (s.size : Int) = 90 := by rw [HSZ.out]; rfl
  go_enter Tryz.func57, Tryz.ntmps57
  go_wp2_with fail
  refine (HIS.out _).mono ?_
  rintro e w1 ⟨rfl, rfl⟩
  go_wp2_with fail
  go_loopg [5, 6] 90 (fun gg s5 s6 wr => ∃ i : Nat, s6 = .int .i64 i ∧ i + gg = 90 ∧ Aside0 (FindAt w1 wr s5 (findL s x i)))
  case atStart => exact ⟨0, rfl, by omega, ⟨⟨own_nil _ _ _ _, Below.refl _ _⟩⟩⟩
  case round =>
    obtain ⟨i, rfl, hi, HG⟩ := hrel
    cases gk with
    | zero =>
      have hn : ¬ ((i : Int) < 90) := by omega
      have HI := Aside0.mk (show i = 90 by omega)
      clear hi
      go_wp2_with fail
      go_ret
      refine ⟨_, rfl, ?_, HG.out.bel⟩
      rw [HR.out, ← HI.out]
      exact HG.out.own
    | succ g =>
      have hn : ((i : Int) < 90) := by omega
      have HI := Aside0.mk (show i + 1 + g = 90 by omega)
      have HLN := Aside0.mk (show (findL s x i).length ≤ 90 by rw [findL_len]; have := cntX_le s i x; have := HI.out; omega)
      have hq : (((cel s i : Nat) : Int) == (x : Int)) = (cel s i == x) := by rw [Bool.eq_iff_iff, beq_iff_eq, beq_iff_eq]; omega
      clear hi
      cases hc : (cel s i == x)
      case false =>
        have HF := Aside0.mk (show findL s x (i + 1) = findL s x i by rw [findL_succ, if_neg (by simpa using hc), List.append_nil])
        rw [hc] at hq
        clear hc
        go_wp2_with fail
        go_roundg g
        case measure => omega
        case rel => exact ⟨i + 1, rfl, HI.out, ⟨by rw [HF.out]; exact HG.out⟩⟩
      case true =>
        have HF := Aside0.mk (show findL s x (i + 1) = findL s x i ++ [i] by rw [findL_succ, if_pos (by simpa using hc)])
        rw [hc] at hq
        clear hc
        generalize findL s x i = l at *
        go_wp2_with (first | (at_builtin; refine hold ?_))
        refine Hold.go ?_
        refine wpList_append_lies _ (by rfl) _ _ _ (by rfl) w1.heap.size 3 i0 _ 1 8 Tryz.underlying94 HZ.out.1 HZ.out.2.1 HZ.out.2.2.1 HZ.out.2.2.2 rfl (by omega) _ l.length (flatI l) (by rfl) (HG.out.own.below (below_alloc (Below.refl _ _) _)) ⟨wr.heap.size, 0, none⟩ 1 1 [.int .i64 (i : Int)] (by rfl) (by rfl) (World.news_of_block (cs := #[.int .i64 (i : Int)]) (t := 3) (fr := (0, 0)) (news_own _ _)) (by simp [Value.oneCell']) (by omega) (by have := HLN.out; unfold maxLen; omega) (by have := HLN.out; omega) (by have := HG.out.bel.size; simp; omega) _ rfl ?_
        intro gg cap1 w2 hown1 hgrow hat hlt1
        have HO1 := Aside0.mk hown1
        have HGR := Aside0.mk hgrow
        clear hown1 hgrow hat
        go_wp2_with fail
        go_roundg g
        case measure => omega
        case rel =>
          refine ⟨i + 1, rfl, HI.out, ⟨?_⟩⟩
          rw [HF.out]
          refine (HG.out.below (below_alloc (Below.refl _ _) _)).grown HGR.out ?_
          have ho := HO1.out
          unfold OwnI
          rw [flatI_append, List.length_append]
          exact ho
end Go.Proofs.YtafmapadkpjliaaGreatDoor.K

/- Walk: the reference's Check. -/
namespace Go.Proofs.YtafmapadkpjliaaGreatDoor.K
open Go.RowKit Go.Lib Go.Proofs.YtafmapadkpjliaaGreatDoorW.PrintWords Go.Proofs.YtafmapadkpjliaaGreatDoor.Sp
set_option linter.unusedVariables false
set_option linter.unusedSimpArgs false
attribute [local go_sem] cel_get   -- for this text's walks alone
/-- The letters' bytes. -/
theorem letter_at : ∀ i, i < 14 → cel { data := #[75, 65, 66, 78, 82, 67, 80, 107, 97, 98, 110, 114, 99, 112] } i = pieces14.getD i 0 := by decide
/-- A position's box, whose cells alone are read. -/
structure CkAt (w0 W : World) (s : ByteArray) : Prop where
  c0 : W.cell? ⟨w0.heap.size, 0, none⟩ = some (.string s)
  bel : Below w0.heap.size w0 W
theorem CkAt.below {w0 W W' : World} {s : ByteArray} (h : CkAt w0 W s) (hb : Below W.heap.size W W') : CkAt w0 W' s := ⟨below_cell hb _ _ _ h.c0, h.bel.trans (hb.mono h.bel.size)⟩
theorem CkAt.drew {w0 W : World} {s : ByteArray} (h : CkAt w0 W s) : CkAt w0 W.drew s := h.below (pw_below_drewN (Below.refl _ _) 1)
set_option maxRecDepth 100000 in
set_option maxHeartbeats 4000000 in
theorem rcheck_bad (p : Pos) (hmx : p.cells.size ≤ maxLen) (ha : argOk p = false) (w : World) : Calls Tryz.prog 34 #[posV p] w fun e w' => e = .returned (.int .i64 (checkP p)) ∧ Below w.heap.size w w' := by
  have HI := Aside0.mk (fun W => ris_c p.cells hmx W)
  have hu := Tryz.underlying23
  rw [show checkP p = 1 by unfold checkP; rw [if_pos ha]]
  have HN := Aside0.mk (argOk_no ha)
  clear ha hmx
  generalize isBoard p.cells = bb at HI HN
  have HB := Aside0.mk (below_alloc (Below.refl w.heap.size w) (.cells #[.string p.cells, .int .i64 p.side, .int .i64 p.clock, .int .i64 p.full] 23))
  go_enter Tryz.func34, Tryz.ntmps34
  go_upto_region 3 with (go_at_call 54; refine (HI.out _).mono ?_; rintro e w1 ⟨rfl, rfl⟩)
  all_goals
    first
    | (go_ret; exact ⟨rfl, HB.out⟩)
    | (exfalso
       have hn := HN.out
       clear HN HB HI
       simp_all
       done)
    | (exfalso
       have hn := HN.out
       clear HN HB HI
       simp_all
       omega)
theorem right_all {s : ByteArray} {n m : Nat} (h : n ≤ m) (hr : rightX s n = false) : rightX s m = false := by
  unfold rightX at *
  rw [List.all_eq_false] at *
  obtain ⟨x, hx, hq⟩ := hr
  exact ⟨x, List.mem_range.2 (by have := List.mem_range.1 hx; omega), hq⟩
set_option maxRecDepth 100000 in
set_option maxHeartbeats 4000000 in
theorem rcheck_ok (p : Pos) (ha : argOk p = true) (w : World) : Calls Tryz.prog 34 #[posV p] w fun e w' => e = .returned (.int .i64 (checkP p)) ∧ Below w.heap.size w w' := by
  obtain ⟨hbd, hsd, hc1, hc2, hf1, hf2⟩ := argOk_yes ha
  have hmx : p.cells.size ≤ maxLen := by rw [board_size hbd]; unfold maxLen; omega
  have HI := Aside0.mk (fun W => ris_c p.cells hmx W)
  have hu := Tryz.underlying23
  have HP := Aside0.mk (show checkP p = if pieces14.any (badX p.cells) = true then 3 else if rightX p.cells 90 = false then 2 else 0 by unfold checkP; rw [ha]; rfl)
  have HSZ := Aside0.mk (board_size hbd)
  have HBD := Aside0.mk hbd
  rw [hbd] at HI
  clear ha hbd
  have hs0 : 0 ≤ p.side := by omega
  have hs1 : p.side ≤ 1 := by omega
  clear hsd
  have HCK := Aside0.mk (show CkAt w (w.alloc (.cells #[.string p.cells, .int .i64 p.side, .int .i64 p.clock, .int .i64 p.full] 23)) p.cells from ⟨by simp [World.cell?_alloc_at], below_alloc (Below.refl _ _) _⟩)
  go_enter Tryz.func34, Tryz.ntmps34
  go_upto_region 3 with (go_at_call 54; refine (HI.out _).mono ?_; rintro e w1 ⟨rfl, rfl⟩)
  generalize w.alloc (.cells #[.string p.cells, .int .i64 p.side, .int .i64 p.clock, .int .i64 p.full] 23) = W0 at *
  clear hs0 hs1 hc1 hc2 hf1 hf2
  go_wp2_with fail
  go_loopg [4] 14 (fun gg s4 wr => ∃ i : Nat, s4 = .int .i64 i ∧ i + gg = 14 ∧ Aside0 (CkAt w wr p.cells) ∧ Aside0 (∀ j, j < i → badX p.cells (pieces14.getD j 0) = false))
  case atStart => exact ⟨0, rfl, by omega, HCK, ⟨fun j hj => by omega⟩⟩
  case round =>
    clear HCK
    obtain ⟨i, rfl, hi, HC, HBX⟩ := hrel
    cases gk with
    | zero =>
      have hn : ¬ ((i : Int) < 14) := by omega
      have hi14 : i = 14 := by omega
      subst hi14
      have HNA := Aside0.mk (none14 p.cells HBX.out)
      clear hi HBX
      go_wp2_with fail
      go_loopg [6] 90 (fun gg s6 wr => ∃ i : Nat, s6 = .int .i64 i ∧ i + gg = 90 ∧ Aside0 (CkAt w wr p.cells) ∧ Aside0 (rightX p.cells i = true))
      case atStart => exact ⟨0, rfl, by omega, HC, ⟨rfl⟩⟩
      case round =>
        clear HC
        obtain ⟨j, rfl, hj, HC, HRT⟩ := hrel
        cases gk with
        | zero =>
          have hn2 : ¬ ((j : Int) < 90) := by omega
          have HJ := Aside0.mk (show j = 90 by omega)
          clear hj
          go_wp2_with fail
          go_ret
          refine ⟨ret_int ?_, HC.out.bel⟩
          rw [HP.out, HNA.out, ← HJ.out, HRT.out]; simp
        | succ g =>
          have hn2 : (j : Int) < 90 := by omega
          have HJ := Aside0.mk (show j + 1 + g = 90 by omega)
          have c0 := HC.out.c0
          have hsz : (j : Int) < p.cells.size := by rw [HSZ.out]; omega
          have hle := board_cell HBD.out (show j < 90 by omega)
          have h2 : ∀ x ∈ letters, x ≠ 46 → 0 ≤ sideN x := by decide
          have HM := Aside0.mk (fun (h : cel p.cells j ≠ 46) W => rmay_c (cel p.cells j) (h2 _ hle h) j (by omega) W)
          have hrx := rightX_succ p.cells j
          rw [HRT.out, Bool.true_and] at hrx
          have HF90 := Aside0.mk (fun (h : rightX p.cells (j + 1) = false) => right_all (show j + 1 ≤ 90 by omega) h)
          clear h2 hle
          generalize hx : cel p.cells j = x at *
          have q := bne46 x
          have HX := Aside0.mk hx
          generalize mayN x j = mm at *
          have HRX := Aside0.mk hrx
          clear hrx hj
          cases h46 : (x != 46) <;> cases mm
          all_goals
            rw [h46] at q
            have H46 := Aside0.mk h46
            clear h46
            go_wp2_with (go_at_call 59; refine (HM.out (by have := H46.out; simpa using this) _).mono ?_; rintro e w3 ⟨rfl, rfl⟩)
            first
            | (go_ret
               refine ⟨ret_int ?_, HC.out.bel⟩
               rw [HP.out, HNA.out, HF90.out (by rw [HRX.out]; have := H46.out; simp_all)]; rfl)
            | (go_roundg g
               case measure => have := HJ.out; omega
               case rel => exact ⟨j + 1, by go_num, by have := HJ.out; omega, HC, ⟨by rw [HRX.out]; have := H46.out; simp_all⟩⟩)
    | succ g =>
      have hn : (i : Int) < 14 := by omega
      have hi14 : i < 14 := by omega
      have HG := Aside0.mk (show i + 1 + g = 14 by omega)
      have hx := piece_lt i hi14
      have hl := letter_at i hi14
      have HFI := Aside0.mk (fun W => rfind_c p.cells (by rw [HSZ.out]; unfold maxLen; omega) (pieces14.getD i 0) hx W)
      have HMO := Aside0.mk (fun W => rmost_c (pieces14.getD i 0) hx W)
      have HKI := Aside0.mk (fun W => rkind_c (pieces14.getD i 0) hx W)
      have hbx : badX p.cells (pieces14.getD i 0) = (decide (mostN (pieces14.getD i 0) < cntX p.cells 90 (pieces14.getD i 0)) || (kindN (pieces14.getD i 0) == 75 && cntX p.cells 90 (pieces14.getD i 0) != 1)) := rfl
      have hfl : (findN p.cells (pieces14.getD i 0)).length = cntX p.cells 90 (pieces14.getD i 0) := by unfold findN; rw [HBD.out, if_pos rfl, findL_len]
      have hcle := cntX_le p.cells 90 (pieces14.getD i 0)
      have hkq := kindN_q (pieces14.getD i 0)
      have HANY := Aside0.mk (any14 p.cells i hi14)
      generalize hxx : pieces14.getD i 0 = x at *
      generalize cntX p.cells 90 x = cc at *
      generalize mostN x = m at *
      generalize kindN x = k at *
      have HBE := Aside0.mk hbx
      have HFL := Aside0.mk hfl
      have hcq : ((cc : Int) != 1) = (cc != 1) := by rw [Bool.eq_iff_iff, bne_iff_ne, bne_iff_ne]; omega
      have HXX := Aside0.mk hxx
      clear hbx hxx hi hfl
      have c0 := HC.out.c0
      go_wp2_with fail
      go_region_held3 (fun W => W.cell? ⟨w.heap.size, 0, none⟩ = some (.string p.cells)) (go_keep)
        (first
          | (go_at_call 57; refine (HFI.out _).mono ?_; rintro e w2 ⟨v, rfl, hv, hb⟩; obtain ⟨A, cap, rfl⟩ := hv.form; have HC2 := Aside0.mk (HC.out.drew.below hb); have c0' := HC2.out.c0; rw [HFL.out]; clear hv hb))
      have HC3 := HC2
      clear HC HC2 c0 c0'
      generalize findN p.cells x = fl at *
      cases b1 : decide (m < cc)
      all_goals cases b2 : (k == 75)
      all_goals cases b3 : (cc != 1)
      all_goals
        rw [b2] at hkq
        rw [b3] at hcq
        have HB123 : Aside0 (badX p.cells x = (decide (m < cc) || (k == 75 && cc != 1))) := HBE
        rw [b1, b2, b3] at HB123
        clear b2 b3
        go_wp2_with (first | (go_at_call 58; refine (HMO.out _).mono ?_; rintro e w3 ⟨rfl, rfl⟩) | (go_at_call 48; refine (HKI.out _).mono ?_; rintro e w4 ⟨rfl, rfl⟩))
        first
        | (go_ret
           refine ⟨ret_int ?_, ?_⟩
           · rw [HP.out, if_pos (HANY.out (by rw [HB123.out]; rfl))]
           · exact HC3.out.bel)
        | (go_roundg g
           case measure => have := HG.out; omega
           case rel => exact ⟨i + 1, by go_num, by have := HG.out; omega, HC3, ⟨fun j hj => by
             by_cases h : j = i
             · subst h; rw [HXX.out, HB123.out]; rfl
             · exact HBX.out j (by omega)⟩⟩)
theorem rcheck_c (p : Pos) (hmx : p.cells.size ≤ maxLen) (w : World) : Calls Tryz.prog 34 #[posV p] w fun e w' => e = .returned (.int .i64 (checkP p)) ∧ Below w.heap.size w w' := by
  cases ha : argOk p
  · exact rcheck_bad p hmx ha w
  · exact rcheck_ok p ha w
end Go.Proofs.YtafmapadkpjliaaGreatDoor.K

/- Walks: the reference's Moved; what it asks of a move. -/
namespace Go.Proofs.YtafmapadkpjliaaGreatDoor.K
open Go.RowKit Go.Lib Go.Proofs.YtafmapadkpjliaaGreatDoorW.PrintWords Go.Proofs.YtafmapadkpjliaaGreatDoor.Sp
set_option linter.unusedVariables false
set_option linter.unusedSimpArgs false
attribute [local go_sem] cel_get   -- for this text's walks alone
set_option maxRecDepth 100000 in
set_option maxHeartbeats 4000000 in
theorem rmoved_c (s : ByteArray) (hs : s.size = 90) (a b : Nat) (ha : a < 90) (hb : b < 90) (w : World) : Calls Tryz.prog 49 #[.string s, .agg #[.int .i64 (a : Int), .int .i64 (b : Int)]] w fun e w' => e = .returned (.string (movedB s a b)) ∧ Below w.heap.size w w' := by
  have hu2 := Tryz.underlying36
  have HSZ := Aside0.mk hs
  have ha1 : (a : Int) < 90 := by omega
  have hb1 : (b : Int) < 90 := by omega
  have HAB := Aside0.mk (And.intro ha hb)
  clear hs ha hb
  go_enter Tryz.func49, Tryz.ntmps49
  have d0 : (w.alloc (.cells #[.int .i64 (a : Int), .int .i64 (b : Int)] 36)).cell? ⟨w.heap.size, 0, none⟩ = some (.int .i64 (a : Int)) := by simp [World.cell?_alloc_at]
  have d1 : (w.alloc (.cells #[.int .i64 (a : Int), .int .i64 (b : Int)] 36)).cell? ⟨w.heap.size, 1, none⟩ = some (.int .i64 (b : Int)) := by simp [World.cell?_alloc_at]
  have HW := Aside0.mk (below_alloc (Below.refl w.heap.size w) (.cells #[.int .i64 (a : Int), .int .i64 (b : Int)] 36))
  have hz0 : (w.alloc (.cells #[.int .i64 (a : Int), .int .i64 (b : Int)] 36)).heap.size = w.heap.size + 1 := by simp
  go_upto_region 1 with fail
  generalize w.alloc (.cells #[.int .i64 (a : Int), .int .i64 (b : Int)] 36) = W1 at *
  have kb := fun W => print_bytes (P := Tryz.prog) 9 93 5 Tryz.underlying9 Tryz.underlying93 Tryz.underlying5 s W
  go_wp2_with (simp only [kb])
  have HB := Aside0.mk (bytes_at_new W1 5 s)
  have HBW := bytes_below (Below.refl W1.heap.size W1) (Nat.le_refl _) 5 s
  have HLT := Aside0.mk (Lib.bytesWorld_size W1 5 s)
  have d0' := below_cell HBW _ _ _ d0
  have d1' := below_cell HBW _ _ _ d1
  have HW8 := Aside0.mk (below_go HW.out HBW)
  clear d0 d1 HBW
  generalize Lib.bytesWorld W1 5 s = w8 at *
  have hsz : (s.size : Int) = 90 := by rw [HSZ.out]; rfl
  obtain ⟨ka, fa⟩ := HB.out a (by rw [bytesOf_length, HSZ.out]; exact HAB.out.1)
  obtain ⟨kb2, fb⟩ := HB.out b (by rw [bytesOf_length, HSZ.out]; exact HAB.out.2)
  have HXA := Aside0.mk (show (bytesOf s).getD a 0 = (cel s a : Int) from bytes_getD s a (by rw [HSZ.out]; exact HAB.out.1))
  rw [HXA.out] at ka
  obtain ⟨ks, fs⟩ := (HB.out.set b (cel s a : Int)) a (by rw [List.length_set, bytesOf_length, HSZ.out]; exact HAB.out.1)
  generalize ((bytesOf s).set b (cel s a : Int)).getD a 0 = xs at ks
  generalize hxa : cel s a = xa at *
  generalize (bytesOf s).getD b 0 = xb at *
  have HB' := Aside0.mk (show BytesAt w8 (w.heap.size + 1) (bytesOf s) by rw [← hz0]; exact HB.out)
  rw [hz0] at ka fa kb2 fb ks fs
  have HLT' := Aside0.mk (show w.heap.size + 1 < w8.heap.size by rw [← hz0]; have := HLT.out; omega)
  have hne : w.heap.size + 1 ≠ w.heap.size := by omega
  clear kb HB HLT hz0
  go_region
  have hbs : BytesAt ((w8.setCell ⟨w.heap.size + 1, b, none⟩ (.int .u8 (xa : Int))).setCell ⟨w.heap.size + 1, a, none⟩ (.int .u8 46)).drew (w.heap.size + 1) (((bytesOf s).set b (xa : Int)).set a 46) := (HB'.out.set b (xa : Int)).set a 46
  have kc := bytes_string hbs 93 Tryz.underlying93 (cap := grownCap W1 s.size 0 5)
  rw [List.length_set, List.length_set, bytesOf_length] at kc
  have HMB := Aside0.mk (show movedB s a b = strOfNums (((bytesOf s).set b (xa : Int)).set a 46) by unfold movedB; rw [hxa])
  rw [← HMB.out] at kc
  have HBZ := Aside0.mk (show Below w.heap.size w ((w8.setCell ⟨w.heap.size + 1, b, none⟩ (.int .u8 (xa : Int))).setCell ⟨w.heap.size + 1, a, none⟩ (.int .u8 46)).drew from by (repeat' (first | (with_reducible exact Below.refl _ _) | (with_reducible refine pw_below_drewN ?_ _) | (with_reducible refine below_alloc ?_ _) | (with_reducible refine Below.drew ?_) | (with_reducible refine Below.setCell ?_ ?_ _) | (simp; done))) <;> first | exact HW8.out | (simp; done) | (simp; omega))
  clear hbs HMB HB'
  generalize hmb : movedB s a b = mb at *
  have HM2 := Aside0.mk hmb
  clear hmb
  go_wp2_with (simp only [kc])
  go_ret
  refine ⟨?_, HBZ.out⟩
  show Ending.returned (.string mb) = Ending.returned (.string (movedB s a b))
  rw [HM2.out]
/-- What the reference asks of a move. -/
def okR (p : Pos) (m : Mvi) : Prop := (0 ≤ m.frm ∧ m.frm < 90) ∧ (0 ≤ m.dest ∧ m.dest < 90) ∧ sideN (cel p.cells m.frm.toNat) = p.side ∧ fastN (cel p.cells) m.frm.toNat m.dest.toNat = true ∧ kindN (cel p.cells m.dest.toNat) ≠ 75
theorem ok_good {p : Pos} {m : Mvi} (hck : checkP p = 0) : goodM p m = true ↔ okR p m := by
  have hao := checkP_board hck
  obtain ⟨hbd, hsd, _⟩ := argOk_yes hao
  constructor
  · intro h
    obtain ⟨h1, h2, h3, hb, hf, hd⟩ := good_parts h
    obtain ⟨n, hn, he⟩ := List.any_eq_true.1 h3
    rw [beq_iff_eq] at he
    unfold allS at hn
    rw [if_pos ⟨hb, hf⟩] at hn
    have hx : atS p.cells m.frm = cel p.cells m.frm.toNat := by unfold atS; rw [if_pos ⟨hb, hf⟩]
    have hy : atS p.cells m.dest = cel p.cells m.dest.toNat := by unfold atS; rw [if_pos ⟨hb, hd⟩]
    rw [hx, beq_iff_eq] at h1
    rw [hy, beq_eq_false_iff_ne] at h2
    have hnn : m.dest.toNat = n := by omega
    have hn' : n ∈ (List.range 90).filter (fastN (cel p.cells) m.frm.toNat) := hn
    refine ⟨hf, hd, h1, ?_, h2⟩
    rw [hnn]
    exact (List.mem_filter.1 hn').2
  · rintro ⟨hf, hd, h1, h2, h3⟩
    have hx : atS p.cells m.frm = cel p.cells m.frm.toNat := by unfold atS; rw [if_pos ⟨hbd, hf⟩]
    have hy : atS p.cells m.dest = cel p.cells m.dest.toNat := by unfold atS; rw [if_pos ⟨hbd, hd⟩]
    have hl : allS p.cells m.frm = allN (cel p.cells) m.frm.toNat := by unfold allS; rw [if_pos ⟨hbd, hf⟩]
    unfold goodM
    rw [hx, hy, hl, h1]
    simp only [beq_self_eq_true, Bool.true_and, Bool.and_eq_true, bne_iff_ne, ne_eq]
    refine ⟨h3, List.any_eq_true.2 ⟨m.dest.toNat, List.mem_filter.2 ⟨List.mem_range.2 (by omega), h2⟩, ?_⟩⟩
    rw [beq_iff_eq]; omega
end Go.Proofs.YtafmapadkpjliaaGreatDoor.K

/- Plain law: the moves that may be made. -/
namespace Go.Proofs.YtafmapadkpjliaaGreatDoor.K
open Go.RowKit Go.Lib Go.Proofs.YtafmapadkpjliaaGreatDoorW.PrintWords Go.Proofs.YtafmapadkpjliaaGreatDoor.Sp
set_option linter.unusedVariables false
set_option linter.unusedSimpArgs false
abbrev mviOf (m : Mv) : Mvi := ⟨m.1, m.2⟩
/-- Does a move leave a position that is right? -/
def safeS (p : Pos) (m : Mvi) : Bool := (applyP p m).2.2 == 0 && wellS (applyP p m).1 == 0
/-- The moves that may be made. -/
def legalL (p : Pos) : List Mv := if wellS p = 0 then (gathP p (fun _ => true)).filter (fun m => safeS p (mviOf m)) else []
/-- The reference's. -/
def safeR (s : ByteArray) (a : Int) : Bool := !facS s && !inS s a
def mayR (s : ByteArray) (a : Int) (m : Mv) : Bool := kindN (cel s m.2) != 75 && safeR (movedB s m.1 m.2) a
def legalR (s : ByteArray) (a : Int) : List Mv := (gathM s a (fun _ => true) 90).filter (mayR s a)
/-- Behind a move that may be made; what was taken; or why there is none. -/
def makeP (p : Pos) (m : Mvi) : Pos × Nat × Int := if wellS p ≠ 0 then (zeroP, 0, wellS p) else if safeS p m = false then (zeroP, 0, 7) else applyP p m
/-- Is there an end? -/
def endS (p : Pos) : Int := if wellS p ≠ 0 then 0 else if (gathP p (fun _ => true)).any (fun m => safeS p (mviOf m)) = true then 0 else if inS p.cells p.side = true then 1 else 2
theorem well_check {p : Pos} (h : wellS p = 0) : checkP p = 0 := by
  unfold wellS at h
  by_cases hc : checkP p = 0
  · exact hc
  · rw [if_pos hc] at h; exact absurd h hc
theorem well_parts {p : Pos} (h : wellS p = 0) : checkP p = 0 ∧ facS p.cells = false ∧ inS p.cells (1 - p.side) = false := by
  have hc := well_check h
  refine ⟨hc, ?_⟩
  unfold wellS at h
  rw [if_neg (by simpa using hc)] at h
  cases hf : facS p.cells
  · rw [hf] at h
    cases hi : inS p.cells (1 - p.side)
    · exact ⟨rfl, rfl⟩
    · rw [hi] at h; simp at h
  · rw [hf] at h; simp at h
theorem well_eq {p : Pos} (h : checkP p = 0) : (wellS p == 0) = (!facS p.cells && !inS p.cells (1 - p.side)) := by
  unfold wellS
  rw [if_neg (by simpa using h)]
  cases facS p.cells <;> cases inS p.cells (1 - p.side) <;> rfl
theorem apply_good {p : Pos} {m : Mvi} (hck : checkP p = 0) (hg : goodM p m = true) : applyP p m = (⟨movedB p.cells m.frm.toNat m.dest.toNat, 1 - p.side, if atS p.cells m.dest = 46 then min (p.clock + 1) 120 else 0, if p.side = 1 then min (p.full + 1) 9999 else p.full⟩, if atS p.cells m.dest = 46 then 0 else atS p.cells m.dest, 0) := by
  unfold applyP
  rw [if_neg (by simpa using hck), if_neg (by simpa using hg)]
theorem apply_ill {p : Pos} {m : Mvi} (hck : checkP p = 0) (hg : goodM p m = false) : applyP p m = (zeroP, 0, 7) := by
  unfold applyP
  rw [if_neg (by simpa using hck), if_pos hg]
/-- Behind a good move the position is right but for checks. -/
theorem check_after {p : Pos} {m : Mvi} (hck : checkP p = 0) (hg : goodM p m = true) : checkP (applyP p m).1 = 0 := by
  obtain ⟨⟨f0, f1⟩, ⟨g0, g1⟩, h1, h2, h3⟩ := (ok_good hck).1 hg
  obtain ⟨_, _, q1, q2, q3, q4⟩ := argOk_yes (checkP_board hck)
  rw [apply_good hck hg]
  exact (right_after hck (by omega) (by omega) h1 h2 h3 _ _ (by split <;> omega) (by split <;> omega)).1
theorem safe_good {p : Pos} {m : Mvi} (hck : checkP p = 0) (hg : goodM p m = true) : safeS p m = safeR (movedB p.cells m.frm.toNat m.dest.toNat) p.side := by
  have h := check_after hck hg
  have hw := well_eq h
  rw [apply_good hck hg] at hw
  unfold safeS safeR
  rw [apply_good hck hg]
  simp only at hw ⊢
  rw [hw, show (1 : Int) - (1 - p.side) = p.side by omega]
  simp
theorem safe_ill {p : Pos} {m : Mvi} (hck : checkP p = 0) (hg : goodM p m = false) : safeS p m = false := by
  unfold safeS
  rw [apply_ill hck hg]
  rfl
theorem safe_is_good {p : Pos} {m : Mvi} (hck : checkP p = 0) (h : safeS p m = true) : goodM p m = true := by
  cases hg : goodM p m
  · rw [safe_ill hck hg] at h; cases h
  · rfl
theorem safe_may {p : Pos} (hck : checkP p = 0) {m : Mv} (hm : m ∈ gathP p (fun _ => true)) : safeS p (mviOf m) = mayR p.cells p.side m := by
  obtain ⟨_, h1, h2, h3, h4, _⟩ := gath_mem hm
  have hg := good_move hck h1 h2 h3 h4
  unfold mayR
  cases hk : (kindN (cel p.cells m.2) != 75)
  · rw [hk] at hg
    rw [safe_ill hck hg]; rfl
  · rw [hk] at hg
    rw [safe_good hck hg]; rfl
theorem legal_eq {p : Pos} (h : wellS p = 0) : legalL p = legalR p.cells p.side := by
  have hc := well_check h
  unfold legalL legalR
  rw [if_pos h]
  have hg : gathM p.cells p.side (fun _ => true) 90 = gathP p (fun _ => true) := by unfold gathP; rw [if_pos hc]
  rw [hg]
  exact List.filter_congr fun m hm => safe_may hc hm
theorem legal_no {p : Pos} (h : wellS p ≠ 0) : legalL p = [] := if_neg h
theorem legal_mem {p : Pos} {m : Mv} : m ∈ legalL p ↔ wellS p = 0 ∧ m ∈ gathP p (fun _ => true) ∧ safeS p (mviOf m) = true := by
  unfold legalL
  split
  · rename_i h; rw [List.mem_filter]; exact ⟨fun h2 => ⟨h, h2⟩, fun h2 => h2.2⟩
  · rename_i h; simp [h]
theorem legal_len (p : Pos) : (legalL p).length ≤ (gathP p (fun _ => true)).length := by
  unfold legalL; split
  · exact List.length_filter_le _ _
  · simp
theorem legal_len2 (p : Pos) : (legalL p).length ≤ 8100 := Nat.le_trans (legal_len p) (gath_len p _)
/-- The end, of the moves. -/
theorem end_eq (p : Pos) : endS p = if wellS p ≠ 0 then 0 else if 0 < (legalL p).length then 0 else if inS p.cells p.side = true then 1 else 2 := by
  unfold endS
  by_cases h : wellS p = 0
  · have hn : ¬ (wellS p ≠ 0) := by simpa using h
    rw [if_neg hn, if_neg hn]
    have e : legalL p = (gathP p (fun _ => true)).filter (fun m => safeS p (mviOf m)) := if_pos h
    rw [e]
    have k : (gathP p (fun _ => true)).any (fun m => safeS p (mviOf m)) = true ↔ 0 < ((gathP p (fun _ => true)).filter (fun m => safeS p (mviOf m))).length := by
      rw [List.any_eq_true, List.length_pos_iff_exists_mem]
      exact ⟨fun ⟨x, h1, h2⟩ => ⟨x, List.mem_filter.2 ⟨h1, h2⟩⟩, fun ⟨x, h1⟩ => ⟨x, List.mem_filter.1 h1⟩⟩
    by_cases hq : (gathP p (fun _ => true)).any (fun m => safeS p (mviOf m)) = true
    · rw [if_pos hq, if_pos (k.1 hq)]
    · rw [if_neg hq, if_neg (fun hh => hq (k.2 hh))]
  · rw [if_pos h, if_pos h]
theorem make_ok {p : Pos} {m : Mvi} (hw : wellS p = 0) (hs : safeS p m = true) : makeP p m = applyP p m := by
  unfold makeP; rw [if_neg (by simpa using hw), if_neg (by simpa using hs)]
theorem make_err {p : Pos} {m : Mvi} : (makeP p m).2.2 = 0 ↔ wellS p = 0 ∧ safeS p m = true := by
  unfold makeP
  by_cases hw : wellS p = 0
  · rw [if_neg (by simpa using hw)]
    cases hs : safeS p m
    · simp [hw]
    · simp only [Bool.true_eq_false, if_false]
      unfold safeS at hs
      simp only [Bool.and_eq_true, beq_iff_eq] at hs
      simp [hw, hs.1]
  · rw [if_pos hw]
    simp [hw]
end Go.Proofs.YtafmapadkpjliaaGreatDoor.K

/- Walks: legal.safe, Moves, Captures, Is. -/
namespace Go.Proofs.YtafmapadkpjliaaGreatDoor.K
open Go.RowKit Go.Lib Go.Proofs.YtafmapadkpjliaaGreatDoorW.PrintWords Go.Proofs.YtafmapadkpjliaaGreatDoor.Sp
set_option linter.unusedVariables false
set_option linter.unusedSimpArgs false
/-- The boxes of a position and of a move. -/
structure PmAt (w0 W : World) (p : Pos) (m : Mvi) : Prop where
  box : BoxP W w0.heap.size p
  d0 : W.cell? ⟨w0.heap.size + 1, 0, none⟩ = some (.int .i64 m.frm)
  d1 : W.cell? ⟨w0.heap.size + 1, 1, none⟩ = some (.int .i64 m.dest)
  bel : Below w0.heap.size w0 W
theorem PmAt.below {w0 W W' : World} {p : Pos} {m : Mvi} (h : PmAt w0 W p m) (hb : Below W.heap.size W W') : PmAt w0 W' p m :=
  ⟨h.box.below hb, below_cell hb _ _ _ h.d0, below_cell hb _ _ _ h.d1, below_go h.bel hb⟩
theorem PmAt.drew {w0 W : World} {p : Pos} {m : Mvi} (h : PmAt w0 W p m) : PmAt w0 W.drew p m := h.below (pw_below_drewN (Below.refl _ _) 1)
theorem PmAt.new (w : World) (p : Pos) (m : Mvi) : PmAt w ((w.alloc (.cells #[.string p.cells, .int .i64 p.side, .int .i64 p.clock, .int .i64 p.full] 23)).alloc (.cells #[.int .i64 m.frm, .int .i64 m.dest] 36)) p m :=
  ⟨(BoxP.new w p).below (below_alloc (Below.refl _ _) _), by simp [World.cell?_alloc_at], by simp [World.cell?_alloc_at], below_alloc (below_alloc (Below.refl _ _) _) _⟩
set_option maxRecDepth 100000 in
set_option maxHeartbeats 4000000 in
theorem safe_c (p : Pos) (m : Mvi) (w : World) (hT : TabW w) : Calls Tryz.prog 65 #[posV p, mviV m] w fun e w' => e = .returned (.bool (safeS p m)) ∧ Below w.heap.size w w' := by
  have HT := Aside0.mk (fun (W : World) (hb : Below w.heap.size w W) => hT.below hb)
  have HAP := Aside0.mk (fun W => apply_c p m W)
  have HS := Aside0.mk (show safeS p m = ((applyP p m).2.2 == 0 && wellS (applyP p m).1 == 0) from rfl)
  have HA := Aside0.mk (PmAt.new w p m)
  unfold ApplyIs at HAP
  generalize applyP p m = r at *
  obtain ⟨q, c, er⟩ := r
  have HWL := Aside0.mk (fun (W : World) (hT : TabW W) => well_c q W hT)
  have hu := Tryz.underlying23
  have hu2 := Tryz.underlying36
  clear hT
  cases h0 : (er == 0)
  all_goals
    have H0 := Aside0.mk h0
    go_enter Tryz.func65, Tryz.ntmps65
    go_wp2_with fail
    refine (HAP.out _).mono ?_
    rintro e w1 ⟨rfl, hb⟩
    have HB := Aside0.mk (HA.out.below hb).bel
    have HQ := Aside0.mk (BoxP.new w1 q)
    clear hb
    go_wp2_with (go_at_call 35; refine (HWL.out _ (HT.out _ (below_new HB.out _))).mono ?_; rintro e w2 ⟨rfl, hb⟩; have HC := Aside0.mk (below_go (below_new HB.out _) hb); clear hb)
    go_ret
    first
    | (refine ⟨ret_bool ?_, HC.out⟩; rw [HS.out, H0.out]; rfl)
    | (refine ⟨ret_bool ?_, below_new HB.out _⟩; rw [HS.out, H0.out]; rfl)
/-! ### Moves -/
set_option maxRecDepth 100000 in
set_option maxHeartbeats 2000000 in
theorem lmoves1_c (p : Pos) (B : Nat) (m : Mv) (w : World) (hx : BoxP w B p) (hT : TabW w) : Calls Tryz.prog 64 #[mvV m, .pointer (some ⟨B, 0, none⟩)] w fun e w' => e = .returned (.bool (!safeS p (mviOf m))) ∧ Below w.heap.size w w' := by
  have HT := Aside0.mk (fun (W : World) (hb : Below w.heap.size w W) => hT.below hb)
  have HS := Aside0.mk (fun (W : World) (hT : TabW W) => safe_c p (mviOf m) W hT)
  have HB := Aside0.mk (hx.below (below_alloc (Below.refl _ _) (.cells #[.int .i64 (m.1 : Int), .int .i64 (m.2 : Int)] 36)))
  have hu := Tryz.underlying23
  have hu2 := Tryz.underlying36
  generalize safeS p (mviOf m) = r at *
  obtain ⟨c0, c1, c2, c3⟩ := HB.out
  have hne : w.heap.size ≠ B := World.new_ne w _ hx.c0
  clear hT hx
  go_enter Tryz.func64, Tryz.ntmps64
  go_wp2_with (go_at_call 65; refine (HS.out _ (HT.out _ (below_alloc (Below.refl _ _) _))).mono ?_; rintro e w2 ⟨rfl, hb⟩; have HC := Aside0.mk (below_go (below_alloc (Below.refl _ _) _) hb); clear hb)
  go_ret
  exact ⟨rfl, HC.out⟩
theorem keep_box {w W : World} {b B : Nat} {p : Pos} (hk : KeepBut w W b none) (hne : B ≠ b) (hx : BoxP w B p) : BoxP W B p := by
  have key : ∀ i, W.cell? ⟨B, i, none⟩ = w.cell? ⟨B, i, none⟩ := fun i => by
    have := hk.2 B (World.block_lt_of_cell? w ⟨B, 0, none⟩ hx.c0) hne (by simp)
    unfold World.cell?; simp only [this]
  exact ⟨(key 0).trans hx.c0, (key 1).trans hx.c1, (key 2).trans hx.c2, (key 3).trans hx.c3⟩
theorem keep_tab {w W : World} {b : Nat} (hk : KeepBut w W b none) (hne : 1 ≠ b) (hT : TabW w) : TabW W := by
  intro j hj
  have := hk.2 _ hT.lt hne (by simp)
  have h := hT j hj
  unfold World.cell? at h ⊢
  simp only [this]
  exact h
theorem box_tab {w : World} {B : Nat} {p : Pos} (hT : TabW w) (hx : BoxP w B p) : 1 ≠ B := by
  intro he
  have h := hT 0 (by decide)
  have h2 := hx.c0
  rw [← he, h] at h2
  cases h2
theorem lmoves_del (p : Pos) (B : Nat) (v : Value) (l : List Mv) (hl : l.length ≤ 1000000) (W : World) (hx : BoxP W B p) (hT : TabW W) (hBT : 1 < B) (ho : OwnM W (B + 1) v l) :
    Calls Tryz.prog 38 #[v, .func (.func 64) #[] #[.pointer (some ⟨B, 0, none⟩)]] W fun e w' => ∃ v', e = .returned v' ∧ OwnM w' (B + 1) v' (l.filter (fun m => safeS p (mviOf m))) ∧ Below (B + 1) W w' := by
  have := del_M 64 #[.pointer (some ⟨B, 0, none⟩)] (fun m => !safeS p (mviOf m)) (enters_of Tryz.func64 (by kernel_rfl) rfl) (B + 1) v l W (World.block_lt_of_cell? W ⟨B, 0, none⟩ hx.c0) ho hl (by
    intro b hb _ _ W2 m hm hk
    exact lmoves1_c p B m W2 (keep_box hk (by omega) hx) (keep_tab hk (by omega) hT))
  simpa using this
/-- The box of a position's copy, and what is made behind it. -/
structure LmAt (w0 W : World) (p : Pos) : Prop where
  box : BoxP W w0.heap.size p
  bel : Below w0.heap.size w0 W
theorem LmAt.below {w0 W W' : World} {p : Pos} (h : LmAt w0 W p) (hb : Below W.heap.size W W') : LmAt w0 W' p := ⟨h.box.below hb, below_go h.bel hb⟩
theorem LmAt.drew {w0 W : World} {p : Pos} (h : LmAt w0 W p) : LmAt w0 W.drew p := h.below (pw_below_drewN (Below.refl _ _) 1)
theorem LmAt.new (w : World) (p : Pos) : LmAt w (w.alloc (.cells #[.string p.cells, .int .i64 p.side, .int .i64 p.clock, .int .i64 p.full] 23)) p := ⟨BoxP.new w p, below_alloc (Below.refl _ _) _⟩
theorem LmAt.lt {w0 W : World} {p : Pos} (h : LmAt w0 W p) : w0.heap.size < W.heap.size := World.block_lt_of_cell? W ⟨w0.heap.size, 0, none⟩ h.box.c0
/-- Since a world with one block more. -/
theorem below_less {w W W' : World} {B : Nat} (h : Below w.heap.size w W) (hB : w.heap.size ≤ B) (hb : Below B W W') : Below w.heap.size w W' := h.trans (hb.mono hB)
set_option maxRecDepth 100000 in
set_option maxHeartbeats 4000000 in
theorem lmoves_c (p : Pos) (w : World) (hT : TabW w) : Calls Tryz.prog 36 #[posV p] w fun e w' => ∃ v, e = .returned v ∧ OwnM w' w.heap.size v (legalL p) ∧ Below w.heap.size w w' := by
  have HT := Aside0.mk (fun (W : World) (hb : Below w.heap.size w W) => hT.below hb)
  have HLT := Aside0.mk hT.lt
  have HW := Aside0.mk (fun (W : World) (hT : TabW W) => well_c p W hT)
  have HM := Aside0.mk (fun W => moves_c p W)
  have hu := Tryz.underlying23
  have HA := Aside0.mk (LmAt.new w p)
  by_cases hw : wellS p = 0
  case neg =>
    rw [legal_no hw]
    have h2 : (wellS p != 0) = true := by simpa using hw
    clear hw hT HM
    generalize wellS p = r at *
    go_enter Tryz.func36, Tryz.ntmps36
    go_wp2_with (go_at_call 35; refine (HW.out _ (HT.out _ HA.out.bel)).mono ?_; rintro e w1 ⟨rfl, hb⟩; have HB := Aside0.mk (HA.out.below hb).bel; clear hb)
    go_ret
    exact ⟨_, rfl, own_nil _ _ _ _, HB.out⟩
  case pos =>
    have HE := Aside0.mk (show legalL p = (gathP p (fun _ => true)).filter (fun m => safeS p (mviOf m)) from if_pos hw)
    have HL := Aside0.mk (show (gathP p (fun _ => true)).length ≤ 1000000 from Nat.le_trans (gath_len p _) (by omega))
    rw [hw] at HW
    generalize legalL p = ll at *
    generalize gathP p (fun _ => true) = l at *
    clear hw hT
    go_enter Tryz.func36, Tryz.ntmps36
    go_wp2_with fail
    refine (HW.out _ (HT.out _ HA.out.bel)).mono ?_
    rintro e w1 ⟨rfl, hb⟩
    have HB := Aside0.mk (HA.out.below hb)
    clear hb HA
    obtain ⟨c0, c1, c2, c3⟩ := HB.out.box
    go_wp2_with fail
    refine (HM.out _).mono ?_
    rintro e w2 ⟨v, rfl, ho, hb⟩
    have HC := Aside0.mk (HB.out.below hb)
    have HO := Aside0.mk (OwnM.lower ho HB.out.lt)
    clear hb ho HB c0 c1 c2 c3
    go_wp2_with fail
    refine (lmoves_del p _ _ _ HL.out _ HC.out.box (HT.out _ HC.out.bel) HLT.out HO.out).mono ?_
    rintro e w3 ⟨v3, rfl, ho, hb⟩
    rw [← HE.out] at ho
    have HR := Aside0.mk (And.intro (OwnM.lower ho (Nat.le_succ _)) (below_less HC.out.bel (Nat.le_succ _) hb))
    clear ho hb
    go_wp2_with fail
    go_ret
    exact ⟨_, rfl, HR.out.1, HR.out.2⟩
end Go.Proofs.YtafmapadkpjliaaGreatDoor.K

/- Walk: legal.Make. -/
namespace Go.Proofs.YtafmapadkpjliaaGreatDoor.K
open Go.RowKit Go.Lib Go.Proofs.YtafmapadkpjliaaGreatDoorW.PrintWords Go.Proofs.YtafmapadkpjliaaGreatDoor.Sp
set_option linter.unusedVariables false
set_option linter.unusedSimpArgs false
/-! ### Make -/
def MakeIs (w : World) (p : Pos) (m : Mvi) (e : Ending) (w' : World) : Prop :=
  e = .returned (.tuple #[posV (makeP p m).1, .int .u8 ((makeP p m).2.1 : Int), .int .i64 (makeP p m).2.2]) ∧ Below w.heap.size w w'
set_option maxRecDepth 100000 in
set_option maxHeartbeats 4000000 in
theorem make_c (p : Pos) (m : Mvi) (w : World) (hT : TabW w) : Calls Tryz.prog 42 #[posV p, mviV m] w (MakeIs w p m) := by
  have HT := Aside0.mk (fun (W : World) (hb : Below w.heap.size w W) => hT.below hb)
  have HW := Aside0.mk (fun (W : World) (hT : TabW W) => well_c p W hT)
  have HS := Aside0.mk (fun (W : World) (hT : TabW W) => safe_c p m W hT)
  have HAP := Aside0.mk (fun W => apply_c p m W)
  have hu := Tryz.underlying23
  have hu2 := Tryz.underlying36
  have HE := Aside0.mk (show makeP p m = if wellS p ≠ 0 then (zeroP, 0, wellS p) else if safeS p m = false then (zeroP, 0, 7) else applyP p m from rfl)
  have HA := Aside0.mk (apat_new w p m)
  unfold ApplyIs at HAP
  generalize applyP p m = r at *
  obtain ⟨q, c, er⟩ := r
  generalize safeS p m = sf at *
  clear hT
  cases h0 : (wellS p != 0)
  case true =>
    have HR := Aside0.mk (show makeP p m = (zeroP, 0, wellS p) by rw [HE.out, if_pos (by simpa using h0)])
    clear HE HS HAP
    generalize wellS p = r at *
    go_enter Tryz.func42, Tryz.ntmps42
    go_wp2_with fail
    refine (HW.out _ (HT.out _ HA.out.bel)).mono ?_
    rintro e w1 ⟨rfl, hb⟩
    have HB := Aside0.mk (HA.out.below hb)
    clear hb HA
    have fr := HB.out.fr
    have r0 := HB.out.r0
    have r1 := HB.out.r1
    have r2 := HB.out.r2
    have r3 := HB.out.r3
    go_wp2_with fail
    refine bodyPost_ret (by simp [results, Tryz.results42, go_sem, r0, r1, r2, r3]; try rfl) rfl ?_
    exact ⟨by rw [HR.out]; rfl, by (repeat' (first | (with_reducible exact Below.refl _ _) | (with_reducible refine pw_below_drewN ?_ _) | (with_reducible refine below_alloc ?_ _) | (with_reducible refine Below.drew ?_) | (with_reducible refine Below.setCell ?_ ?_ _) | (simp; done))) <;> first | exact HB.out.bel | (simp; done) | (simp; omega)⟩
  case false =>
    have hw : wellS p = 0 := by simpa using h0
    rw [hw] at HW HE
    cases sf
    case false =>
      have HR := Aside0.mk (show makeP p m = (zeroP, 0, 7) by rw [HE.out]; rfl)
      clear HE HAP h0 hw
      go_enter Tryz.func42, Tryz.ntmps42
      go_wp2_with fail
      refine (HW.out _ (HT.out _ HA.out.bel)).mono ?_
      rintro e w1 ⟨rfl, hb⟩
      have HB := Aside0.mk (HA.out.below hb)
      clear hb HA
      have c0 := HB.out.c0
      have c1 := HB.out.c1
      have c2 := HB.out.c2
      have c3 := HB.out.c3
      have d0 := HB.out.d0
      have d1 := HB.out.d1
      go_wp2_with fail
      refine (HS.out _ (HT.out _ HB.out.bel)).mono ?_
      rintro e w2 ⟨rfl, hb⟩
      have HC := Aside0.mk (HB.out.below hb)
      clear hb HB c0 c1 c2 c3 d0 d1
      have fr := HC.out.fr
      have r0 := HC.out.r0
      have r1 := HC.out.r1
      have r2 := HC.out.r2
      have r3 := HC.out.r3
      go_wp2_with fail
      refine bodyPost_ret (by simp [results, Tryz.results42, go_sem, r0, r1, r2, r3]; try rfl) rfl ?_
      exact ⟨by rw [HR.out]; rfl, by (repeat' (first | (with_reducible exact Below.refl _ _) | (with_reducible refine pw_below_drewN ?_ _) | (with_reducible refine below_alloc ?_ _) | (with_reducible refine Below.drew ?_) | (with_reducible refine Below.setCell ?_ ?_ _) | (simp; done))) <;> first | exact HC.out.bel | (simp; done) | (simp; omega)⟩
    case true =>
      have HR := Aside0.mk (show makeP p m = (q, c, er) by rw [HE.out]; rfl)
      clear HE h0 hw
      go_enter Tryz.func42, Tryz.ntmps42
      go_wp2_with fail
      refine (HW.out _ (HT.out _ HA.out.bel)).mono ?_
      rintro e w1 ⟨rfl, hb⟩
      have HB := Aside0.mk (HA.out.below hb)
      clear hb HA
      have c0 := HB.out.c0
      have c1 := HB.out.c1
      have c2 := HB.out.c2
      have c3 := HB.out.c3
      have d0 := HB.out.d0
      have d1 := HB.out.d1
      go_wp2_with fail
      refine (HS.out _ (HT.out _ HB.out.bel)).mono ?_
      rintro e w2 ⟨rfl, hb⟩
      have HC := Aside0.mk (HB.out.below hb)
      clear hb HB c0 c1 c2 c3 d0 d1
      have c0 := HC.out.c0
      have c1 := HC.out.c1
      have c2 := HC.out.c2
      have c3 := HC.out.c3
      have d0 := HC.out.d0
      have d1 := HC.out.d1
      go_wp2_with fail
      refine (HAP.out _).mono ?_
      rintro e w3 ⟨rfl, hb⟩
      have HD := Aside0.mk (HC.out.below hb)
      clear hb HC c0 c1 c2 c3 d0 d1
      have fr := HD.out.fr
      have r0 := HD.out.r0
      have r1 := HD.out.r1
      have r2 := HD.out.r2
      have r3 := HD.out.r3
      go_wp2_with fail
      refine bodyPost_ret (by simp [results, Tryz.results42, go_sem, r0, r1, r2, r3]; try rfl) rfl ?_
      exact ⟨by rw [HR.out], by (repeat' (first | (with_reducible exact Below.refl _ _) | (with_reducible refine pw_below_drewN ?_ _) | (with_reducible refine below_alloc ?_ _) | (with_reducible refine Below.drew ?_) | (with_reducible refine Below.setCell ?_ ?_ _) | (simp; done))) <;> first | exact HD.out.bel | (simp; done) | (simp; omega)⟩
end Go.Proofs.YtafmapadkpjliaaGreatDoor.K

/- A row of moves beside a position's box, and a position that is made; what is behind a move that may be made. -/
namespace Go.Proofs.YtafmapadkpjliaaGreatDoor.K
open Go.RowKit Go.Lib Go.Proofs.YtafmapadkpjliaaGreatDoorW.PrintWords Go.Proofs.YtafmapadkpjliaaGreatDoor.Sp
set_option linter.unusedVariables false
set_option linter.unusedSimpArgs false
attribute [local go_sem] cel_get   -- for this text's walks alone
structure RowAt (w0 W : World) (p : Pos) (v : Value) (l : List Mv) : Prop where
  box : BoxP W w0.heap.size p
  m1 : MvAt W w0.heap.size v l
  bel : Below w0.heap.size w0 W
theorem RowAt.below {w0 W W' : World} {p : Pos} {v : Value} {l : List Mv} (h : RowAt w0 W p v l) (hb : Below W.heap.size W W') : RowAt w0 W' p v l := ⟨h.box.below hb, h.m1.below hb, below_go h.bel hb⟩
theorem RowAt.drew {w0 W : World} {p : Pos} {v : Value} {l : List Mv} (h : RowAt w0 W p v l) : RowAt w0 W.drew p v l := h.below (pw_below_drewN (Below.refl _ _) 1)
structure OqAt (w0 W : World) (p : Pos) (v : Value) (l : List Mv) (q : Pos) (qb : Nat) : Prop where
  row : RowAt w0 W p v l
  qx : BoxP W qb q
theorem OqAt.below {w0 W W' : World} {p q : Pos} {v : Value} {l : List Mv} {qb : Nat} (h : OqAt w0 W p v l q qb) (hb : Below W.heap.size W W') : OqAt w0 W' p v l q qb := ⟨h.row.below hb, h.qx.below hb⟩
theorem OqAt.mk1 {w0 W : World} {p : Pos} {v : Value} {l : List Mv} (h : RowAt w0 W p v l) (q : Pos) : OqAt w0 (W.alloc (.cells #[.string q.cells, .int .i64 q.side, .int .i64 q.clock, .int .i64 q.full] 23)) p v l q W.heap.size :=
  ⟨h.below (below_alloc (Below.refl _ _) _), BoxP.new W q⟩
/-- A new position's box behind a call. -/
theorem zq_new (W W' : World) (hb : Below (W.alloc (.cells #[.string { data := #[] }, .int .i64 0, .int .i64 0, .int .i64 0] 23)).heap.size (W.alloc (.cells #[.string { data := #[] }, .int .i64 0, .int .i64 0, .int .i64 0] 23)) W') :
    W'.cell? ⟨W.heap.size, 0, none⟩ = some (.string { data := #[] }) ∧ W'.cell? ⟨W.heap.size, 1, none⟩ = some (.int .i64 0) ∧ W'.cell? ⟨W.heap.size, 2, none⟩ = some (.int .i64 0) ∧ W'.cell? ⟨W.heap.size, 3, none⟩ = some (.int .i64 0) ∧ (∀ k, W'.frozen? ⟨W.heap.size, k, none⟩ = false) ∧ Below W.heap.size W W' := by
  have hl : W.heap.size < (W.alloc (.cells #[.string { data := #[] }, .int .i64 0, .int .i64 0, .int .i64 0] 23)).heap.size := by simp
  exact ⟨(hb.cell (p := ⟨W.heap.size, 0, none⟩) hl).trans (by simp [World.cell?_alloc_at]), (hb.cell (p := ⟨W.heap.size, 1, none⟩) hl).trans (by simp [World.cell?_alloc_at]), (hb.cell (p := ⟨W.heap.size, 2, none⟩) hl).trans (by simp [World.cell?_alloc_at]), (hb.cell (p := ⟨W.heap.size, 3, none⟩) hl).trans (by simp [World.cell?_alloc_at]), fun k => (hb.frozen (p := ⟨W.heap.size, k, none⟩) hl).trans (World.frozen?_alloc_at _ _ _ k rfl), (below_alloc (Below.refl W.heap.size W) _).trans (hb.mono (by simp))⟩
theorem OqAt.mk2 {w0 W0 W : World} {p : Pos} {v : Value} {l : List Mv} (h : RowAt w0 W0 p v l) (hb : Below W0.heap.size W0 W) (z0 : W.cell? ⟨W0.heap.size, 0, none⟩ = some (.string { data := #[] })) (z1 : W.cell? ⟨W0.heap.size, 1, none⟩ = some (.int .i64 0)) (z2 : W.cell? ⟨W0.heap.size, 2, none⟩ = some (.int .i64 0)) (z3 : W.cell? ⟨W0.heap.size, 3, none⟩ = some (.int .i64 0)) (q : Pos) :
    OqAt w0 ((((W.setCell ⟨W0.heap.size, 0, none⟩ (.string q.cells)).setCell ⟨W0.heap.size, 1, none⟩ (.int .i64 q.side)).setCell ⟨W0.heap.size, 2, none⟩ (.int .i64 q.clock)).setCell ⟨W0.heap.size, 3, none⟩ (.int .i64 q.full)) p v l q W0.heap.size :=
  ⟨h.below (Below.setCell (p := ⟨W0.heap.size, 3, none⟩) (Below.setCell (p := ⟨W0.heap.size, 2, none⟩) (Below.setCell (p := ⟨W0.heap.size, 1, none⟩) (Below.setCell (p := ⟨W0.heap.size, 0, none⟩) hb (Nat.le_refl _) _) (Nat.le_refl _) _) (Nat.le_refl _) _) (Nat.le_refl _) _), ⟨by simp [go_sem, z0, z1, z2, z3], by simp [go_sem, z0, z1, z2, z3], by simp [go_sem, z0, z1, z2, z3], by simp [go_sem, z0, z1, z2, z3]⟩⟩
/-- What is behind a move that may be made. -/
theorem legal_make {p : Pos} {m : Mv} (hm : m ∈ legalL p) : ∃ mb : ByteArray, makeP p (mviOf m) = (⟨mb, 1 - p.side, if cel p.cells m.2 = 46 then min (p.clock + 1) 120 else 0, if p.side = 1 then min (p.full + 1) 9999 else p.full⟩, if cel p.cells m.2 = 46 then 0 else cel p.cells m.2, 0) ∧ safeR mb p.side = true ∧ cel p.cells m.2 ≠ 0 ∧ wellS (makeP p (mviOf m)).1 = 0 := by
  obtain ⟨hw, hg, hs⟩ := legal_mem.1 hm
  have hck := well_check hw
  have hgd := safe_is_good hck hs
  obtain ⟨_, h1, h2, _⟩ := gath_mem hg
  have hbd := (argOk_yes (checkP_board hck)).1
  have hat : atS p.cells (m.2 : Int) = cel p.cells m.2 := by unfold atS; rw [if_pos ⟨hbd, by omega, by omega⟩]; rfl
  refine ⟨movedB p.cells m.1 m.2, ?_, ?_, ?_, ?_⟩
  · rw [make_ok hw hs, apply_good hck hgd]
    simp only
    rw [hat]
    rfl
  · rw [safe_good hck hgd] at hs
    exact hs
  · have h : ∀ x ∈ letters, x ≠ 0 := by decide
    exact h _ (board_cell hbd h2)
  · rw [make_ok hw hs]
    unfold safeS at hs
    simp only [Bool.and_eq_true, beq_iff_eq] at hs
    exact hs.2
end Go.Proofs.YtafmapadkpjliaaGreatDoor.K

/- Plain law: a text with a byte on a square. -/
namespace Go.Proofs.YtafmapadkpjliaaGreatDoor.K
open Go.RowKit Go.Lib Go.Proofs.YtafmapadkpjliaaGreatDoorW.PrintWords Go.Proofs.YtafmapadkpjliaaGreatDoor.Sp
set_option linter.unusedVariables false
theorem bytes_back (s : ByteArray) : (bytesOf s).map (fun n => UInt8.ofNat n.toNat) = s.data.toList := by
  unfold bytesOf
  rw [List.map_map]
  conv => rhs; rw [← List.map_id s.data.toList]
  refine List.map_congr_left fun b _ => ?_
  simp
theorem put_list (s : ByteArray) (n c : Nat) : (putT s n c).data.toList = s.data.toList.set n (UInt8.ofNat c) := by
  unfold putT strOfNums
  show (((bytesOf s).set n (c : Int)).map (fun n => UInt8.ofNat n.toNat)) = _
  rw [List.map_set, bytes_back]
  simp
theorem put_cat (s : ByteArray) (hz : s.size = 90) (n c : Nat) (hn : n < 90) : s.extract 0 n ++ strOfNums [(c : Int)] ++ s.extract (n + 1) 90 = putT s n c := by
  have hl : s.data.toList.length = 90 := hz
  apply ByteArray.ext
  apply Array.ext'
  rw [put_list, List.set_eq_take_append_cons_drop, if_pos (by rw [hl]; exact hn)]
  have e1 : (strOfNums [(c : Int)]).data.toList = [UInt8.ofNat c] := by simp [strOfNums]
  simp only [ByteArray.data_append, Array.toList_append, ByteArray.data_extract, Array.toList_extract, e1]
  simp
  exact List.take_of_length_le (by rw [List.length_drop, hl]; omega)
theorem putT_size (s : ByteArray) (n c : Nat) : (putT s n c).size = s.size := by
  have := congrArg List.length (put_list s n c)
  rw [List.length_set] at this
  exact this
theorem cel_list (s : ByteArray) (i : Nat) (h : i < s.data.toList.length) : cel s i = (s.data.toList[i]).toNat := by
  have h2 : i < s.size := h
  rw [← cel_get s i h2]
  rfl
theorem putT_cel (s : ByteArray) (n c i : Nat) (hc : c < 256) (hi : i < s.size) : cel (putT s n c) i = if i = n then c else cel s i := by
  have h1 : i < (putT s n c).data.toList.length := by rw [put_list, List.length_set]; exact hi
  have h2 : i < s.data.toList.length := hi
  rw [cel_list _ i h1, cel_list s i h2]
  simp only [put_list, List.getElem_set]
  by_cases h : n = i
  · rw [if_pos h, if_pos h.symm]
    simp; omega
  · rw [if_neg h, if_neg (Ne.symm h)]
theorem putT_board (s : ByteArray) (hs : isBoard s = true) (n c : Nat) (hc : cellB c = true) (hc2 : c < 256) : isBoard (putT s n c) = true := by
  have hz := board_size hs
  rw [board_iff _ (by rw [putT_size]; exact hz)]
  intro i hi
  rw [putT_cel s n c i hc2 (by omega)]
  split
  · exact hc
  · exact (board_iff s hz).1 hs i hi
end Go.Proofs.YtafmapadkpjliaaGreatDoor.K

/- Walks: references: Of, Between, put. -/
namespace Go.Proofs.YtafmapadkpjliaaGreatDoor.K
open Go.RowKit Go.Lib Go.Proofs.YtafmapadkpjliaaGreatDoorW.PrintWords Go.Proofs.YtafmapadkpjliaaGreatDoor.Sp
set_option linter.unusedVariables false
set_option linter.unusedSimpArgs false
theorem rofp_c (k : Nat) (hk : 65 ≤ k ∧ k ≤ 90) (a : Int) (w : World) :
    Calls Tryz.prog 55 #[.int .u8 (k : Int), .int .i64 a] w fun e w' => e = .returned (.int .u8 ((if a = 1 then k + 32 else k : Nat) : Int)) ∧ w' = w := by
  by_cases h1 : a = 1
  · rw [if_pos h1]
    have q : (a == 1) = true := by rw [h1]; rfl
    have e1 : ((k : Int) - 65) % 256 = (k : Int) - 65 := by omega
    have e2 : ((k : Int) - 65 + 97) % 256 = (k : Int) + 32 := by omega
    clear h1 hk
    go_enter Tryz.func55, Tryz.ntmps55
    go_wp2_with fail
    go_ret
    exact ⟨ret_int (by omega), rfl⟩
  · rw [if_neg h1]
    have q : (a == 1) = false := by rw [beq_eq_false_iff_ne]; exact h1
    clear h1 hk
    go_enter Tryz.func55, Tryz.ntmps55
    go_wp2_with fail
    go_ret
    exact ⟨rfl, rfl⟩
theorem rreal_c (n : Int) (w : World) : Calls Tryz.prog 123 #[.int .i64 n] w fun e w' => e = .returned (.bool (decide (0 ≤ n ∧ n < 90))) ∧ w' = w := by
  by_cases h0 : 0 ≤ n
  all_goals
    go_enter Tryz.func123, Tryz.ntmps123
    go_wp2_with fail
    go_ret
    refine ⟨ret_bool ?_, rfl⟩
    rw [Bool.eq_iff_iff]; simp; omega
set_option maxRecDepth 100000 in
set_option maxHeartbeats 2000000 in
theorem rbetw_c (s : ByteArray) (hmx : s.size ≤ maxLen) (a b : Int) (w : World) : Calls Tryz.prog 85 #[.string s, .int .i64 a, .int .i64 b] w fun e w' => e = .returned (.int .i64 (betwS s a b)) ∧ w' = w := by
  have HI := Aside0.mk (fun W => ris_c s hmx W)
  have HQA := Aside0.mk (fun W => rreal_c a W)
  have HQB := Aside0.mk (fun W => rreal_c b W)
  have HE := Aside0.mk (show betwS s a b = if isBoard s = true ∧ (0 ≤ a ∧ a < 90) ∧ (0 ≤ b ∧ b < 90) then betwN (cel s) a.toNat b.toNat else -1 from rfl)
  clear hmx
  cases hs : isBoard s with
  | false =>
    rw [hs] at HI
    have HE2 := Aside0.mk (show betwS s a b = -1 by rw [HE.out, if_neg (by rw [hs]; simp)])
    clear hs HQA HQB HE
    go_enter Tryz.func85, Tryz.ntmps85
    go_wp2_with (go_at_call 54; refine (HI.out _).mono ?_; rintro e w1 ⟨rfl, rfl⟩)
    go_ret
    exact ⟨ret_int HE2.out.symm, rfl⟩
  | true =>
    rw [hs] at HI
    cases ha : decide (0 ≤ a ∧ a < 90) with
    | false =>
      rw [ha] at HQA
      have HE2 := Aside0.mk (show betwS s a b = -1 by rw [HE.out, if_neg (fun h => of_decide_eq_false ha h.2.1)])
      clear hs HQB ha HE
      go_enter Tryz.func85, Tryz.ntmps85
      go_wp2_with (first | (go_at_call 54; refine (HI.out _).mono ?_; rintro e w1 ⟨rfl, rfl⟩) | (go_at_call 123; (with_reducible refine (HQA.out _).mono ?_); rintro e w2 ⟨rfl, rfl⟩))
      go_ret
      exact ⟨ret_int HE2.out.symm, rfl⟩
    | true =>
      rw [ha] at HQA
      have ha := of_decide_eq_true ha
      cases hb : decide (0 ≤ b ∧ b < 90) with
      | false =>
        rw [hb] at HQB
        have HE2 := Aside0.mk (show betwS s a b = -1 by rw [HE.out, if_neg (fun h => of_decide_eq_false hb h.2.2)])
        clear hs ha hb HE
        go_enter Tryz.func85, Tryz.ntmps85
        go_wp2_with (first | (go_at_call 54; refine (HI.out _).mono ?_; rintro e w1 ⟨rfl, rfl⟩) | (go_at_call 123; (with_reducible refine (HQA.out _).mono ?_); rintro e w2 ⟨rfl, rfl⟩; clear HQA) | (go_at_call 123; (with_reducible refine (HQB.out _).mono ?_); rintro e w2 ⟨rfl, rfl⟩))
        go_ret
        exact ⟨ret_int HE2.out.symm, rfl⟩
      | true =>
        rw [hb] at HQB
        have hb := of_decide_eq_true hb
        have HE2 := Aside0.mk (show betwS s a b = betwN (cel s) a.toNat b.toNat by rw [HE.out, if_pos ⟨hs, ha, hb⟩])
        have HB := Aside0.mk (fun W => rbetween_c s (board_size hs) a.toNat b.toNat (by omega) (by omega) W)
        rw [show ((a.toNat : Nat) : Int) = a by omega, show ((b.toNat : Nat) : Int) = b by omega] at HB
        generalize betwN (cel s) a.toNat b.toNat = r at *
        clear hs ha hb HE
        go_enter Tryz.func85, Tryz.ntmps85
        go_wp2_with (first | (go_at_call 54; refine (HI.out _).mono ?_; rintro e w1 ⟨rfl, rfl⟩) | (go_at_call 123; (with_reducible refine (HQA.out _).mono ?_); rintro e w2 ⟨rfl, rfl⟩) | (go_at_call 123; (with_reducible refine (HQB.out _).mono ?_); rintro e w2 ⟨rfl, rfl⟩) | (go_at_call 121; (with_reducible refine (HB.out _).mono ?_); rintro e w2 ⟨rfl, rfl⟩))
        go_ret
        exact ⟨ret_int HE2.out.symm, rfl⟩
theorem byte1 (x : Nat) (W : World) : (convert 93 9 (.slice (some ⟨W.heap.size, 0, none⟩) 1 1)).run Tryz.prog (W.alloc (.cells #[.int .u8 (x : Int)] 5)) = .ok (.string (strOfNums [(x : Int)])) (W.alloc (.cells #[.int .u8 (x : Int)] 5)) := by
  have h : BytesAt (W.alloc (.cells #[.int .u8 (x : Int)] 5)) W.heap.size [(x : Int)] := by
    intro i hi
    obtain rfl : i = 0 := by simp at hi; exact hi
    simp [World.cell?_alloc_at]
  exact bytes_string h 93 Tryz.underlying93
theorem byte1d (x : Nat) (W : World) : (convert 93 9 (.slice (some ⟨W.heap.size, 0, none⟩) 1 1)).run Tryz.prog (W.alloc (.cells #[.int .u8 (x : Int)] 5)).drew = .ok (.string (strOfNums [(x : Int)])) (W.alloc (.cells #[.int .u8 (x : Int)] 5)).drew := by
  have h : BytesAt (W.alloc (.cells #[.int .u8 (x : Int)] 5)).drew W.heap.size [(x : Int)] := by
    intro i hi
    obtain rfl : i = 0 := by simp at hi; exact hi
    simp [World.cell?_alloc_at]
  exact bytes_string h 93 Tryz.underlying93
set_option maxRecDepth 100000 in
set_option maxHeartbeats 2000000 in
theorem rput_c (s : ByteArray) (hs : isBoard s = true) (n : Nat) (hn : n < 90) (a : Int) (ha : a = 0 ∨ a = 1) (w : World) : Calls Tryz.prog 124 #[.string s, .int .i64 (n : Int), .int .i64 a] w fun e w' => e = .returned (.string (putT s n (pawnO a))) ∧ Below w.heap.size w w' := by
  have hz := board_size hs
  have hsz : (s.size : Int) = 90 := by rw [hz]; rfl
  have HO := Aside0.mk (fun W => rofp_c 80 (by omega) (1 - a) W)
  have k3 : (convert 93 9 (.slice (some ⟨w.heap.size, 0, none⟩) 1 1)).run Tryz.prog (w.alloc (.cells #[.int .u8 112] 5)).drew = .ok (.string (strOfNums [112])) (w.alloc (.cells #[.int .u8 112] 5)).drew := byte1d 112 w
  have k4 : (convert 93 9 (.slice (some ⟨w.heap.size, 0, none⟩) 1 1)).run Tryz.prog (w.alloc (.cells #[.int .u8 80] 5)).drew = .ok (.string (strOfNums [80])) (w.alloc (.cells #[.int .u8 80] 5)).drew := byte1d 80 w
  have n0 : 0 ≤ (n : Int) := by omega
  have n1 : (n : Int) < 90 := by omega
  have n2 : (n : Int) ≤ 90 := by omega
  have n3 : (n : Int) + 1 ≤ 90 := by omega
  have n4 : 0 ≤ (n : Int) + 1 := by omega
  have n5 : IntKind.i64.wrap ((n : Int) + 1) = (n : Int) + 1 := by rw [IntKind.wrap_i64]; omega
  have n6 : ((n : Int) + 1).toNat = n + 1 := by omega
  have n7 : (n : Int) ≤ (s.size : Int) := by omega
  have n8 : (n : Int) + 1 ≤ (s.size : Int) := by omega
  have e1 : (s.extract 0 n).size = n := by rw [ByteArray.size_extract]; omega
  have e2 : (s.extract (n + 1) 90).size = 90 - (n + 1) := by rw [ByteArray.size_extract, hz]; omega
  have e3 : (strOfNums [112]).size = 1 := by simp [strOfNums, ByteArray.size]
  have e4 : (strOfNums [80]).size = 1 := by simp [strOfNums, ByteArray.size]
  have HN := Aside0.mk (fun p q r : ByteArray => fun (h1 : p.size = n) (h2 : q.size = 1) (h3 : r.size = 90 - (n + 1)) => (show (p ++ q).size ≤ maxLen ∧ (p ++ q ++ r).size ≤ maxLen by simp only [ByteArray.size_append]; unfold maxLen; omega))
  obtain ⟨z1, z2⟩ := HN.out _ _ _ e1 e3 e2
  obtain ⟨z3, z4⟩ := HN.out _ _ _ e1 e4 e2
  have H112 := Aside0.mk (show s.extract 0 n ++ strOfNums [112] ++ s.extract (n + 1) s.size = putT s n (pawnO 0) by rw [hz]; exact put_cat s hz n 112 hn)
  have H80 := Aside0.mk (show s.extract 0 n ++ strOfNums [80] ++ s.extract (n + 1) s.size = putT s n (pawnO 1) by rw [hz]; exact put_cat s hz n 80 hn)
  clear hs hn hz HN
  have HB := Aside0.mk (Below.refl w.heap.size w)
  rcases ha with rfl | rfl
  all_goals
    simp only [Int.sub_self, Int.sub_zero, reduceIte, Int.reduceEq] at HO
    go_enter Tryz.func124, Tryz.ntmps124
    go_wp2_with fail
    go_region_with (first
      | (go_at_call 55; refine (HO.out _).mono ?_; rintro e w2 ⟨rfl, rfl⟩))
    go_wp2_with fail
    go_ret
    refine ⟨?_, by (repeat' (first | (with_reducible exact Below.refl _ _) | (with_reducible refine pw_below_drewN ?_ _) | (with_reducible refine below_alloc ?_ _) | (with_reducible refine Below.drew ?_) | (with_reducible refine Below.setCell ?_ ?_ _) | (simp; done))) <;> first | exact HB.out | (simp; done)⟩
    first | exact congrArg (fun t => Ending.returned (.string t)) H112.out | exact congrArg (fun t => Ending.returned (.string t)) H80.out
end Go.Proofs.YtafmapadkpjliaaGreatDoor.K

/- Walks: references: General, Facing, In. -/
namespace Go.Proofs.YtafmapadkpjliaaGreatDoor.K
open Go.RowKit Go.Lib Go.Proofs.YtafmapadkpjliaaGreatDoorW.PrintWords Go.Proofs.YtafmapadkpjliaaGreatDoor.Sp
set_option linter.unusedVariables false
set_option linter.unusedSimpArgs false
attribute [local go_sem] cel_get
/-- The first square from i on that holds c, or -1. -/
def firstC (s : ByteArray) (c : Nat) : Nat → Nat → Int
  | _, 0 => -1
  | i, k + 1 => if cel s i = c then i else firstC s c (i + 1) k
theorem firstC_hd (s : ByteArray) (c : Nat) : ∀ k i, firstC s c i k = hdZ (((List.range' i k).filter fun i => decide (cel s i = c)))
  | 0, i => rfl
  | k + 1, i => by
    rw [List.range'_succ]
    unfold firstC
    by_cases h : cel s i = c
    · rw [if_pos h, List.filter_cons_of_pos (by simpa using h)]; rfl
    · rw [if_neg h, List.filter_cons_of_neg (by simpa using h)]; exact firstC_hd s c k (i + 1)
theorem genS_first (s : ByteArray) (hs : isBoard s = true) (a : Int) (ha : a = 0 ∨ a = 1) : genS s a = firstC s (kingO a) 0 90 := by
  unfold genS findS
  rw [if_pos ha, if_pos hs, firstC_hd, List.range_eq_range']
theorem genS_no (s : ByteArray) (hs : isBoard s = false) (a : Int) : genS s a = -1 := by
  unfold genS findS
  split
  · rw [if_neg (by rw [hs]; decide)]; rfl
  · rfl
set_option maxRecDepth 100000 in
set_option maxHeartbeats 2000000 in
theorem rgen_c (s : ByteArray) (hmx : s.size ≤ maxLen) (a : Int) (w : World) : Calls Tryz.prog 84 #[.string s, .int .i64 a] w fun e w' => e = .returned (.int .i64 (genS s a)) ∧ Below w.heap.size w w' := by
  have HI := Aside0.mk (fun W => ris_c s hmx W)
  have HB := Aside0.mk (Below.refl w.heap.size w)
  clear hmx
  cases hs : isBoard s with
  | false =>
    rw [hs] at HI
    have HE := Aside0.mk (genS_no s hs a)
    clear hs
    go_enter Tryz.func84, Tryz.ntmps84
    go_wp2_with (go_at_call 54; refine (HI.out _).mono ?_; rintro e w1 ⟨rfl, rfl⟩)
    go_ret
    exact ⟨ret_int HE.out.symm, HB.out⟩
  | true =>
    rw [hs] at HI
    by_cases ha : a = 0 ∨ a = 1
    case neg =>
      have HE := Aside0.mk (show genS s a = -1 from if_neg ha)
      clear hs
      by_cases h0 : a < 0
      · clear ha
        go_enter Tryz.func84, Tryz.ntmps84
        go_wp2_with (go_at_call 54; refine (HI.out _).mono ?_; rintro e w1 ⟨rfl, rfl⟩)
        go_ret
        exact ⟨ret_int HE.out.symm, HB.out⟩
      · have h1 : 1 < a := by omega
        clear ha
        go_enter Tryz.func84, Tryz.ntmps84
        go_wp2_with (go_at_call 54; refine (HI.out _).mono ?_; rintro e w1 ⟨rfl, rfl⟩)
        go_ret
        exact ⟨ret_int HE.out.symm, HB.out⟩
    case pos =>
      have HE := Aside0.mk (genS_first s hs a ha)
      have HSZ := Aside0.mk (board_size hs)
      have HO := Aside0.mk (fun W => rofp_c 75 (by omega) a W)
      have hc : (a = 0 ∧ kingO a = 75) ∨ (a = 1 ∧ kingO a = 107) := by
        rcases ha with h | h <;> subst h
        · exact .inl ⟨rfl, rfl⟩
        · exact .inr ⟨rfl, rfl⟩
      generalize hgen : genS s a = gn at *
      clear hgen hs ha
      rcases hc with ⟨rfl, hp⟩ | ⟨rfl, hp⟩
      all_goals
        rw [hp] at HE
        clear hp
        simp only [reduceIte, Int.reduceEq] at HO
        go_enter Tryz.func84, Tryz.ntmps84
        go_wp2_with (go_at_call 54; refine (HI.out _).mono ?_; rintro e w1 ⟨rfl, rfl⟩)
        go_loopg [5] 90 (fun gg s5 wr => ∃ i : Nat, s5 = .int .i64 i ∧ i + gg = 90 ∧ Aside0 (Below w1.heap.size w1 wr) ∧ Aside0 (gn = firstC s _ i gg))
        case atStart => exact ⟨0, rfl, rfl, HB, HE⟩
        case round =>
          obtain ⟨i, rfl, hi, HW, HX⟩ := hrel
          clear HE HB
          cases gk with
          | zero =>
            have hn : ¬ ((i : Int) < 90) := by omega
            clear hi
            go_wp2_with fail
            go_ret
            exact ⟨ret_int HX.out.symm, HW.out⟩
          | succ g =>
            have i1 : (i : Int) < 90 := by omega
            have i0 : 0 ≤ (i : Int) := by omega
            have i2 : (i : Int) < (s.size : Int) := by rw [HSZ.out]; omega
            have HI2 := Aside0.mk (show i + 1 + g = 90 by omega)
            clear hi
            have hx := HX.out
            unfold firstC at hx
            generalize hxx : cel s i = x at hx
            first
            | (have q : ((x : Int) == 75) = (x == 75) := by rw [Bool.eq_iff_iff, beq_iff_eq, beq_iff_eq]; omega
               by_cases hc : x = 75
               · rw [if_pos hc] at hx
                 have q2 : (x == 75) = true := by simp [hc]
                 rw [q2] at q
                 have HX2 := Aside0.mk hx
                 clear hx hc q2 HX
                 go_wp2_with fail
                 go_quiet (first | (go_at_call 55; exact Calls.quiet_of_same (HO.out _)))
                 go_wp2_with fail
                 go_ret
                 exact ⟨ret_int HX2.out.symm, pw_below_drewN HW.out _⟩
               · rw [if_neg hc] at hx
                 have q2 : (x == 75) = false := by simp [hc]
                 rw [q2] at q
                 have HX2 := Aside0.mk hx
                 clear hx hc q2 HX
                 go_wp2_with fail
                 go_quiet (first | (go_at_call 55; exact Calls.quiet_of_same (HO.out _)))
                 go_wp2_with fail
                 go_roundg g
                 case measure => omega
                 case rel => exact ⟨i + 1, rfl, HI2.out, ⟨pw_below_drewN HW.out _⟩, HX2⟩)
            | (have q : ((x : Int) == 107) = (x == 107) := by rw [Bool.eq_iff_iff, beq_iff_eq, beq_iff_eq]; omega
               by_cases hc : x = 107
               · rw [if_pos hc] at hx
                 have q2 : (x == 107) = true := by simp [hc]
                 rw [q2] at q
                 have HX2 := Aside0.mk hx
                 clear hx hc q2 HX
                 go_wp2_with fail
                 go_quiet (first | (go_at_call 55; exact Calls.quiet_of_same (HO.out _)))
                 go_wp2_with fail
                 go_ret
                 exact ⟨ret_int HX2.out.symm, pw_below_drewN HW.out _⟩
               · rw [if_neg hc] at hx
                 have q2 : (x == 107) = false := by simp [hc]
                 rw [q2] at q
                 have HX2 := Aside0.mk hx
                 clear hx hc q2 HX
                 go_wp2_with fail
                 go_quiet (first | (go_at_call 55; exact Calls.quiet_of_same (HO.out _)))
                 go_wp2_with fail
                 go_roundg g
                 case measure => omega
                 case rel => exact ⟨i + 1, rfl, HI2.out, ⟨pw_below_drewN HW.out _⟩, HX2⟩)
set_option maxRecDepth 100000 in
set_option maxHeartbeats 2000000 in
theorem rfac_c (s : ByteArray) (hmx : s.size ≤ maxLen) (w : World) : Calls Tryz.prog 50 #[.string s] w fun e w' => e = .returned (.bool (facS s)) ∧ Below w.heap.size w w' := by
  have HG0 := Aside0.mk (rgen_c s hmx 0 w)
  have HG1 := Aside0.mk (fun (W : World) => rgen_c s hmx 1 W)
  have HB2 := Aside0.mk (fun W => rbetw_c s hmx (genS s 0) (genS s 1) W)
  have hlt : ∀ a, genS s a < 90 := by
    intro a
    unfold genS
    split
    · have := findS_lt s (kingO a)
      cases h : findS s (kingO a) with
      | nil => show (-1 : Int) < 90; omega
      | cons n tl => rw [h] at this; have := (this n List.mem_cons_self).1; show (n : Int) < 90; omega
    · omega
  have ha9 := hlt 0
  have hb9 := hlt 1
  unfold facS
  generalize betwS s (genS s 0) (genS s 1) = bt at *
  generalize genS s 0 = a at *
  generalize genS s 1 = b at *
  clear hmx hlt
  cases h0 : decide (0 ≤ a)
  · clear ha9 hb9
    go_enter Tryz.func50, Tryz.ntmps50
    go_wp2_with (first
      | (go_at_call 84; (with_reducible refine HG0.out.mono ?_); rintro e w1 ⟨rfl, hb⟩; have HB := Aside0.mk hb; clear hb)
      | (go_at_call 84; (with_reducible refine (HG1.out _).mono ?_); rintro e w2 ⟨rfl, hb⟩; have HC := Aside0.mk (HB.out.trans (hb.mono HB.out.size)); clear hb))
    go_ret
    exact ⟨by simp_all, HC.out⟩
  cases h1 : decide (0 ≤ b)
  · go_enter Tryz.func50, Tryz.ntmps50
    go_wp2_with (first
      | (go_at_call 84; (with_reducible refine HG0.out.mono ?_); rintro e w1 ⟨rfl, hb⟩; have HB := Aside0.mk hb; clear hb)
      | (go_at_call 84; (with_reducible refine (HG1.out _).mono ?_); rintro e w2 ⟨rfl, hb⟩; have HC := Aside0.mk (HB.out.trans (hb.mono HB.out.size)); clear hb))
    go_ret
    exact ⟨by simp_all, HC.out⟩
  have ha0 := of_decide_eq_true h0
  have hb0 := of_decide_eq_true h1
  have e1 : fileS a = a % 9 := if_pos ⟨ha0, ha9⟩
  have e2 : fileS b = b % 9 := if_pos ⟨hb0, hb9⟩
  rw [e1, e2]
  have HAB := Aside0.mk (And.intro h0 h1)
  cases h2 : (a % 9 == b % 9)
  all_goals cases h3 : (bt == 0)
  all_goals
    clear e1 e2 h0 h1
    go_enter Tryz.func50, Tryz.ntmps50
    go_wp2_with (first
      | (go_at_call 84; (with_reducible refine HG0.out.mono ?_); rintro e w1 ⟨rfl, hb⟩; have HB := Aside0.mk hb; clear hb)
      | (go_at_call 84; (with_reducible refine (HG1.out _).mono ?_); rintro e w2 ⟨rfl, hb⟩; have HC := Aside0.mk (HB.out.trans (hb.mono HB.out.size)); clear hb)
      | (go_at_call 85; refine (HB2.out _).mono ?_; rintro e w4 ⟨rfl, rfl⟩))
    go_ret
    exact ⟨by simp_all, HC.out⟩
end Go.Proofs.YtafmapadkpjliaaGreatDoor.K
