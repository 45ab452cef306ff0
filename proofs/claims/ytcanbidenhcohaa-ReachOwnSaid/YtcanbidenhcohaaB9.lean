/- Walks and plain laws that several statements lean on, joined: no statement of the seat is proved here. -/
import Derived.Lib.Hide
import Derived.Test.YtcanbidenhcohaaB8
import Derived.Test.YtcanbidenhcohaaB1
import Derived.Test.YtcanbidenhcohaaB7

/- Plain law: a board with one square changed: what stands between, going back, and the pawn's few squares. -/
namespace Go.Proofs.Ytcanbidenhcohaa.Sp

theorem fast_congr {c d : Nat → Nat} (h : ∀ n, n < 90 → c n = d n) {a b : Nat} (ha : a < 90) (hb : b < 90) (hl : ∀ n, n < 90 → c n ∈ letters) : fastN c a b = fastN d a b := by
  have e1 := h a ha
  have e2 := h b hb
  have hbt : betwN c a b = betwN d a b := by
    unfold betwN
    have : ∀ i ∈ betwL a b, i < 90 := (betwL_turn ⟨a, ha⟩ ⟨b, hb⟩).2
    rw [List.countP_congr (p := fun i => c i != 46) (q := fun i => d i != 46) (fun i hi => by rw [h i (this i hi)])]
  have hleg := leg_turn ⟨a, ha⟩ ⟨b, hb⟩
  have hmid := mid_turn ⟨a, ha⟩ ⟨b, hb⟩
  simp only at hleg hmid
  unfold fastN canN horseN
  rw [hbt, e1, e2]
  congr 1
  cases hp : ((away (a % 9) (b % 9) == 1 && away (a / 9) (b / 9) == 2) || (away (a % 9) (b % 9) == 2 && away (a / 9) (b / 9) == 1)) with
  | true =>
    rw [h _ (hleg hp).2]
    by_cases q1 : away (a % 9) (b % 9) = 2
    · by_cases q2 : away (a / 9) (b / 9) = 2
      · rw [h _ (hmid q1 q2).2]
      · rw [show (away (a / 9) (b / 9) == 2) = false from beq_eq_false_iff_ne.2 q2]; simp
    · rw [show (away (a % 9) (b % 9) == 2) = false from beq_eq_false_iff_ne.2 q1]; simp
  | false =>
    simp only [Bool.false_and]
    by_cases q1 : away (a % 9) (b % 9) = 2
    · by_cases q2 : away (a / 9) (b / 9) = 2
      · rw [h _ (hmid q1 q2).2]
      · rw [show (away (a / 9) (b / 9) == 2) = false from beq_eq_false_iff_ne.2 q2]; simp
    · rw [show (away (a % 9) (b % 9) == 2) = false from beq_eq_false_iff_ne.2 q1]; simp
theorem betw_congr {c d : Nat → Nat} (h : ∀ n, n < 90 → c n = d n) {a b : Nat} (ha : a < 90) (hb : b < 90) : betwN c a b = betwN d a b := by
  unfold betwN
  have : ∀ i ∈ betwL a b, i < 90 := (betwL_turn ⟨a, ha⟩ ⟨b, hb⟩).2
  rw [List.countP_congr (p := fun i => c i != 46) (q := fun i => d i != 46) (fun i hi => by rw [h i (this i hi)])]
theorem betwL_in : ∀ a b : Fin 90, ∀ i ∈ betwL a.1 b.1, i ≠ a.1 ∧ i ≠ b.1 ∧ i < 90 := by decide +kernel
theorem betw_line : ∀ a b : Nat, ∀ c : Nat → Nat, 0 ≤ betwN c a b → a ≠ b := by
  intro a b c h e
  rw [betwN, if_pos e] at h
  omega
theorem mid_in : ∀ a b : Fin 90, away (a.1 % 9) (b.1 % 9) = 2 → away (a.1 / 9) (b.1 / 9) = 2 → (a.1 + b.1) / 2 ≠ a.1 ∧ (a.1 + b.1) / 2 ≠ b.1 ∧ (a.1 + b.1) / 2 < 90 := by decide +kernel
theorem away_sym (a b : Nat) : away a b = away b a := by unfold away; split <;> split <;> omega
/-- A board with x on n. -/
def putC (c : Nat → Nat) (n x : Nat) : Nat → Nat := fun i => if i = n then x else c i
theorem putC_at (c : Nat → Nat) (n x : Nat) : putC c n x n = x := if_pos rfl
theorem putC_ne (c : Nat → Nat) (n x : Nat) {i : Nat} (h : i ≠ n) : putC c n x i = c i := if_neg h
theorem putC_letters {c : Nat → Nat} {n x : Nat} (hc : ∀ i, i < 90 → c i ∈ letters) (hx : x ∈ letters) : ∀ i, i < 90 → putC c n x i ∈ letters := by
  intro i hi
  unfold putC
  split
  · exact hx
  · exact hc i hi
theorem betw_inner {c d : Nat → Nat} {a b : Nat} (ha : a < 90) (hb : b < 90) (h : ∀ n, n ≠ a → n ≠ b → c n = d n) : betwN c a b = betwN d a b := by
  unfold betwN
  rw [List.countP_congr (p := fun i => c i != 46) (q := fun i => d i != 46) (fun i hi => by
    obtain ⟨h1, h2, _⟩ := betwL_in ⟨a, ha⟩ ⟨b, hb⟩ i hi
    rw [h i h1 h2])]
theorem fast_back {c : Nat → Nat} {a b : Nat} (ha : a < 90) (hb : b < 90) (h : fastN c a b = true) (hk : kindN (c a) ≠ 78 ∧ kindN (c a) ≠ 80) (hk7 : ∀ x ∈ letters, 0 ≤ sideN x → kindN x ∈ [75, 65, 66, 78, 82, 67, 80]) (hl : c a ∈ letters) (h67 : kindN (c a) = 67 → c b = 46)
    (hm : mayN (c a) a = true) : fastN (putC (putC c a 46) b (c a)) b a = true := by
  unfold fastN at h
  simp only [Bool.and_eq_true, decide_eq_true_eq, bne_iff_ne, ne_eq] at h
  obtain ⟨⟨h1, h2⟩, h3⟩ := h
  have hab : a ≠ b := fun e => h2 (by rw [e])
  have hk' := hk7 _ hl h1
  unfold fastN
  have eb : putC (putC c a 46) b (c a) b = c a := putC_at _ _ _
  have ea : putC (putC c a 46) b (c a) a = 46 := by rw [putC_ne _ _ _ hab, putC_at]
  have hbet : betwN (putC (putC c a 46) b (c a)) b a = betwN c a b := by
    rw [betw_sym _ hb ha]
    exact betw_inner ha hb (fun n n1 n2 => by rw [putC_ne _ _ _ n2, putC_ne _ _ _ n1])
  rw [eb, ea, decide_eq_true h1, show (sideN 46 != sideN (c a)) = true from by rw [show sideN 46 = -1 from rfl, bne_iff_ne]; omega]
  simp only [Bool.true_and]
  unfold canN at h3 ⊢
  rw [eb, hbet, ea]
  rw [away_sym (b % 9), away_sym (b / 9)]
  obtain ⟨k1, k2⟩ := hk
  by_cases q75 : kindN (c a) = 75
  · rw [if_pos q75] at h3 ⊢
    simp only [Bool.and_eq_true] at h3 ⊢
    exact ⟨h3.1, hm⟩
  rw [if_neg q75] at h3 ⊢
  by_cases q65 : kindN (c a) = 65
  · rw [if_pos q65] at h3 ⊢
    simp only [Bool.and_eq_true] at h3 ⊢
    exact ⟨h3.1, hm⟩
  rw [if_neg q65] at h3 ⊢
  by_cases q66 : kindN (c a) = 66
  · rw [if_pos q66] at h3 ⊢
    simp only [Bool.and_eq_true, beq_iff_eq] at h3 ⊢
    obtain ⟨⟨⟨g1, g2⟩, g3⟩, g4⟩ := h3
    obtain ⟨m1, m2, _⟩ := mid_in ⟨a, ha⟩ ⟨b, hb⟩ g1 g2
    simp only at m1 m2
    refine ⟨⟨⟨g1, g2⟩, hm⟩, ?_⟩
    rw [show (b + a) / 2 = (a + b) / 2 from by rw [Nat.add_comm], putC_ne _ _ _ m2, putC_ne _ _ _ m1]
    exact g4
  rw [if_neg q66, if_neg k1] at h3 ⊢
  by_cases q82 : kindN (c a) = 82
  · rw [if_pos q82] at h3 ⊢
    exact h3
  rw [if_neg q82] at h3 ⊢
  have q67 : kindN (c a) = 67 := by
    simp only [List.mem_cons, List.not_mem_nil, or_false] at hk'
    omega
  rw [if_pos q67] at h3 ⊢
  have := h67 q67
  simp [this] at h3
  simp [h3]
theorem kinds7 : ∀ x ∈ letters, 0 ≤ sideN x → kindN x ∈ [75, 65, 66, 78, 82, 67, 80] := by decide
theorem letter_side : ∀ x ∈ letters, (x = 46 ∧ sideN x = -1) ∨ (x ≠ 46 ∧ sideN x = 0) ∨ (x ≠ 46 ∧ sideN x = 1) := by decide
/-- A red chariot, a red cannon on a. -/
theorem fast_chariot (c : Nat → Nat) {a b : Nat} (ha : a < 90) (hb : b < 90) (hl : c b ∈ letters) (hab : a ≠ b) : fastN (putC c a 82) a b = (sideN (c b) != 0 && betwN c a b == 0) := by
  unfold fastN canN
  rw [putC_at, putC_ne _ _ _ (Ne.symm hab), betw_inner (d := c) ha hb (fun n n1 n2 => putC_ne _ _ _ n1)]
  rfl
theorem fast_cannon (c : Nat → Nat) {a b : Nat} (ha : a < 90) (hb : b < 90) (hl : c b ∈ letters) (hab : a ≠ b) : fastN (putC c a 67) a b = (sideN (c b) != 0 && ((betwN c a b == 0 && c b == 46) || (betwN c a b == 1 && c b != 46))) := by
  unfold fastN canN
  rw [putC_at, putC_ne _ _ _ (Ne.symm hab), betw_inner (d := c) ha hb (fun n n1 n2 => putC_ne _ _ _ n1)]
  rfl
theorem pawn_few : ∀ s : Fin 2, ∀ a : Fin 90, ((List.range 90).filter (pawnN ((s.1 : Nat) : Int) a.1)).length ≤ 3 := by decide +kernel
theorem pawn_ahead : ∀ s : Fin 2, ∀ a b : Fin 90, pawnN ((s.1 : Nat) : Int) a.1 b.1 = true → (if s.1 = 1 then b.1 / 9 + 1 = a.1 / 9 ∧ b.1 % 9 = a.1 % 9 else b.1 / 9 = a.1 / 9 + 1 ∧ b.1 % 9 = a.1 % 9) ∨ (b.1 / 9 = a.1 / 9 ∧ overN a.1 ((s.1 : Nat) : Int) = true) := by decide +kernel
end Go.Proofs.Ytcanbidenhcohaa.Sp

/- board.Put: a board with something on a square: bytes of the call's own, one of them stored into. -/
namespace Go.Proofs.Ytcanbidenhcohaa.P
open Go.RowKit Go.Lib Go.Proofs.YtcanbidenhcohaaW.PrintWords Go.Proofs.YtcanbidenhcohaaW.PrintLast Go.Proofs.YtcanbidenhcohaaW.PrintMore
set_option linter.unusedVariables false
set_option linter.unusedSimpArgs false

/-- A block of bytes of the call's own. -/
def BytesAt (W : World) (g : Nat) (xs : List Int) : Prop := ∀ i, i < xs.length → W.cell? ⟨g, i, none⟩ = some (.int .u8 (xs.getD i 0)) ∧ W.frozen? ⟨g, i, none⟩ = false
theorem bytes_at_new (w : World) (e : TypeId) (s : ByteArray) : BytesAt (Lib.bytesWorld w e s) w.heap.size (bytesOf s) := by
  intro i hi
  rw [bytesOf_length] at hi
  have hcl : (Lib.bytesCells w e s).size ≥ s.size := by
    have h := Lib.bytesWorld_cell w e s (s.size - 1) (by omega)
    have hn := Lib.bytesWorld_at_new w e s
    unfold World.cell? at h
    rw [hn] at h
    by_cases hlt : s.size - 1 < (Lib.bytesCells w e s).size
    · omega
    · simp [Array.getElem?_eq_none (Nat.le_of_not_lt hlt)] at h
  refine ⟨(Lib.bytesWorld_cell w e s i hi).trans ?_, ?_⟩
  · have h' : i < s.data.toList.length := by rw [data_length]; exact hi
    simp [bytesOf, List.getD_eq_getElem?_getD, List.getElem?_eq_getElem h']
  · have hn := Lib.bytesWorld_at_new w e s
    simp [World.frozen?, hn]
    omega
theorem BytesAt.set {W : World} {g : Nat} {xs : List Int} (h : BytesAt W g xs) (i : Nat) (v : Int) : BytesAt (W.setCell ⟨g, i, none⟩ (.int .u8 v)) g (xs.set i v) := by
  intro j hj
  rw [List.length_set] at hj
  obtain ⟨h1, h2⟩ := h j hj
  refine ⟨?_, by rw [World.frozen?_setCell]; exact h2⟩
  by_cases hij : i = j
  · subst hij
    rw [World.cell?_setCell_same' _ _ _ (by rw [h1]; rfl)]
    simp [List.getD_eq_getElem?_getD, hj]
  · rw [World.cell?_setCell_other _ _ _ _ (by intro e; injection e with _ e _; exact hij e), h1]
    simp [List.getD_eq_getElem?_getD, List.getElem?_set_ne hij]
theorem BytesAt.below {W W1 : World} {g : Nat} {xs : List Int} (h : BytesAt W g xs) (hg : g < W.heap.size) (hb : Below W.heap.size W W1) : BytesAt W1 g xs :=
  fun i hi => ⟨(hb.cell (p := ⟨g, i, none⟩) hg).trans (h i hi).1, (hb.frozen (p := ⟨g, i, none⟩) hg).trans (h i hi).2⟩
theorem bytes_string {W : World} {g cap : Nat} {xs : List Int} (h : BytesAt W g xs) (src : TypeId) (hs : Try.prog.underlying src = some (.slice 5)) : (convert src 9 (.slice (some ⟨g, 0, none⟩) xs.length cap)).run Try.prog W = .ok (.string (strOfNums xs)) W :=
  run_convert_bytes_arg W src 5 hs Try.underlying5 g 0 xs.length cap xs rfl (fun i hi => by rw [Nat.zero_add]; exact (h i hi).1) 9 Try.underlying9

def board_Put.f (a0 : ByteArray) (a1 : Int) (a2 : Int) : Option (ByteArray) :=
  (board_isSquare.f a1).bind fun t => if t = true then (board_isCell.f a2).bind fun u => if u = true then (board_Is.f a0).bind fun v => if v = true then (if 0 ≤ a1 ∧ a1 < (a0.size : Int) then some (strOfNums ((bytesOf a0).set a1.toNat a2)) else none) else some a0 else some a0 else some a0
set_option maxHeartbeats 1000000 in
theorem board_Put.calls (a0 : ByteArray) (a1 : Int) (a2 : Int) (r : ByteArray) (w : World) (h : board_Put.f a0 a1 a2 = some r) :
    Calls Try.prog 29 #[.string a0, .int .i64 a1, .int .u8 a2] w fun e w' => e = .returned (.string r) ∧ Below w.heap.size w w' := by
  unfold board_Put.f at h
  obtain ⟨t, ht, h⟩ := Option.bind_eq_some_iff.mp h
  cases t with
  | false =>
    obtain rfl : a0 = r := by simpa using h
    clear h
    go_enter Try.func29, Try.ntmps29
    go_wp2_with (go_at_call 55; refine (board_isSquare.calls _ _ _ ht).mono ?_; rintro e w' ⟨rfl, ⟨⟨q, rfl⟩⟩⟩)
    go_ret
    exact ⟨rfl, pw_below_drewN (Below.refl _ _) _⟩
  | true =>
    rw [if_pos rfl] at h
    obtain ⟨u, hu, h⟩ := Option.bind_eq_some_iff.mp h
    cases u with
    | false =>
      obtain rfl : a0 = r := by simpa using h
      clear h
      go_enter Try.func29, Try.ntmps29
      go_wp2_with (first | (go_at_call 55; refine (board_isSquare.calls _ _ _ ht).mono ?_; rintro e w' ⟨rfl, ⟨⟨q, rfl⟩⟩⟩) | (go_at_call 62; refine (board_isCell.calls _ _ _ hu).mono ?_; rintro e w' ⟨rfl, ⟨⟨q2, rfl⟩⟩⟩))
      go_ret
      exact ⟨rfl, pw_below_drewN (Below.refl _ _) _⟩
    | true =>
      rw [if_pos rfl] at h
      obtain ⟨v, hv, h⟩ := Option.bind_eq_some_iff.mp h
      cases v with
      | false =>
        obtain rfl : a0 = r := by simpa using h
        clear h
        have HB := Aside0.mk (Below.refl w.heap.size w)
        go_enter Try.func29, Try.ntmps29
        go_wp2_with (first | (go_at_call 55; refine (board_isSquare.calls _ _ _ ht).mono ?_; rintro e w' ⟨rfl, ⟨⟨q, rfl⟩⟩⟩) | (go_at_call 62; refine (board_isCell.calls _ _ _ hu).mono ?_; rintro e w' ⟨rfl, ⟨⟨q2, rfl⟩⟩⟩) | (go_at_call 51; refine (board_Is.calls _ _ _ hv).mono ?_; rintro e w1 ⟨rfl, hb1⟩))
        go_ret
        exact ⟨rfl, ⟨hb1.os, hb1.tape, hb1.output, hb1.size, hb1.block⟩⟩
      | true =>
        rw [if_pos rfl] at h
        by_cases hr : 0 ≤ a1 ∧ a1 < (a0.size : Int)
        · rw [if_pos hr] at h
          have hres := Lib.hid (Option.some.inj h)
          clear h
          obtain ⟨h0, h1⟩ := hr
          have hlt : a1.toNat < a0.size := by omega
          have kb := fun W => print_bytes (P := Try.prog) 9 61 5 Try.underlying9 Try.underlying61 Try.underlying5 a0 W
          go_enter Try.func29, Try.ntmps29
          go_wp2_with (first | (go_at_call 55; refine (board_isSquare.calls _ _ _ ht).mono ?_; rintro e w' ⟨rfl, ⟨⟨q, rfl⟩⟩⟩) | (go_at_call 62; refine (board_isCell.calls _ _ _ hu).mono ?_; rintro e w' ⟨rfl, ⟨⟨q2, rfl⟩⟩⟩) | (go_at_call 51; refine (board_Is.calls _ _ _ hv).mono ?_; rintro e w1 ⟨rfl, hb1⟩; have hN := Aside0.mk (bytes_at_new w1 5 a0); obtain ⟨hc0, hf0⟩ := hN.out a1.toNat (by rw [bytesOf_length]; exact hlt); have kc := bytes_string (hN.out.set a1.toNat a2) 61 Try.underlying61 (cap := grownCap w1 a0.size 0 5); rw [List.length_set, bytesOf_length] at kc))
          go_ret
          have hb' : Below w.heap.size w w1 := ⟨hb1.os, hb1.tape, hb1.output, hb1.size, hb1.block⟩
          exact ⟨by rw [← hres.out]; rfl, (bytes_below hb' (below_size hb') 5 a0).setCell (p := ⟨w1.heap.size, a1.toNat, none⟩) (below_size hb') _⟩
        · rw [if_neg hr] at h; cases h
end Go.Proofs.Ytcanbidenhcohaa.P

/- Plain law: the program's Put. -/
namespace Go.Proofs.Ytcanbidenhcohaa.P
open Go.RowKit Go.Lib Go.Proofs.YtcanbidenhcohaaW.PrintWords Go.Proofs.YtcanbidenhcohaaW.PrintLast Go.Proofs.YtcanbidenhcohaaW.PrintMore
open Sp
set_option linter.unusedVariables false
set_option linter.unusedSimpArgs false

theorem isCell_all : ∀ x : Fin 256, board_isCell.f ((x.1 : Nat) : Int) = some (cellB x.1) := by decide +kernel
theorem isCell_f (x : Nat) (hx : x < 256) : board_isCell.f (x : Int) = some (cellB x) := isCell_all ⟨x, hx⟩
theorem cel_strOfNums (l : List Int) (n : Nat) (h : n < l.length) (hl : ∀ x ∈ l, 0 ≤ x ∧ x < 256) : cel (strOfNums l) n = (l[n]).toNat := by
  have h' : n < (strOfNums l).data.toList.length := by simpa [strOfNums] using h
  rw [cel_at _ _ h']
  have := hl _ (List.getElem_mem h)
  simp [strOfNums, UInt8.toNat_ofNat]
  omega
theorem bytes_get (s : ByteArray) (n : Nat) (h : n < (bytesOf s).length) : (bytesOf s)[n] = ((cel s n : Nat) : Int) := by
  have h' : n < s.data.toList.length := by simpa [bytesOf] using h
  rw [cel_at s n h']
  simp [bytesOf]
theorem bytes_range (s : ByteArray) : ∀ x ∈ bytesOf s, 0 ≤ x ∧ x < 256 := by
  intro x hx
  obtain ⟨b, _, rfl⟩ := List.mem_map.1 hx
  have := b.toNat_lt
  omega
/-- The text with x on the square a, if it is a board, a a square and x a byte of a board. -/
def putS (s : ByteArray) (a : Int) (x : Nat) : ByteArray := if isBoard s = true ∧ 0 ≤ a ∧ a < 90 ∧ cellB x = true then boardB (putC (cel s) a.toNat x) else s
theorem put_board (s : ByteArray) (hs : isBoard s = true) (a x : Nat) (ha : a < 90) (hx : x ∈ letters) : strOfNums ((bytesOf s).set a (x : Int)) = boardB (putC (cel s) a x) := by
  have hz := board_size hs
  have hlt : ∀ x ∈ letters, x < 256 := by decide
  have hlen : ((bytesOf s).set a (x : Int)).length = 90 := by rw [List.length_set, bytesOf_length]; exact hz
  have hL : ∀ n, n < 90 → putC (cel s) a x n ∈ letters := putC_letters (fun n hn => board_letter hs hn) hx
  apply board_ext
  · simpa [strOfNums, ByteArray.size] using hlen
  · unfold boardB; rw [strB_size]; simp
  · intro n hn
    rw [boardB_cel _ hL hn, cel_strOfNums _ n (by rw [hlen]; exact hn) (by
      intro y hy
      rcases List.mem_or_eq_of_mem_set hy with h | h
      · exact bytes_range s y h
      · subst h; have := hlt _ hx; omega)]
    rw [List.getElem_set]
    unfold putC
    by_cases h : a = n
    · rw [if_pos h, if_pos h.symm]; rfl
    · rw [if_neg h, if_neg (fun e => h e.symm), bytes_get]; rfl
theorem put_f (s : ByteArray) (a : Int) (x : Nat) (hx : x < 256) : board_Put.f s a (x : Int) = some (putS s a x) := by
  unfold board_Put.f putS board_Is.f
  rw [square_f, isCell_f x hx]
  simp only [Option.bind_some]
  by_cases h0 : 0 ≤ a ∧ a < 90
  · rw [if_pos (decide_eq_true h0)]
    cases hc : cellB x with
    | false => rw [if_neg (by simp), if_neg (by simp)]
    | true =>
      rw [if_pos rfl]
      cases hs : isBoard s with
      | false => rw [if_neg (by simp), if_neg (by simp)]
      | true =>
        have hz := board_size hs
        rw [if_pos rfl, if_pos (by rw [hz]; omega), if_pos ⟨rfl, h0.1, h0.2, rfl⟩]
        congr 1
        exact put_board s hs a.toNat x (by omega) (cellB_mem x hc)
  · rw [if_neg (by simpa using h0), if_neg (fun h => h0 ⟨h.2.1, h.2.2.1⟩)]
theorem letter_cell : ∀ x ∈ letters, cellB x = true ∧ x < 256 := by decide
theorem putS_is {s : ByteArray} (hs : isBoard s = true) {a x : Nat} (ha : a < 90) (hx : x ∈ letters) : isBoard (putS s a x) = true ∧ ∀ n, n < 90 → cel (putS s a x) n = putC (cel s) a x n := by
  have hL : ∀ n, n < 90 → putC (cel s) a x n ∈ letters := putC_letters (fun n hn => board_letter hs hn) hx
  have h2 : ((a : Nat) : Int) < 90 := by omega
  unfold putS
  rw [if_pos ⟨hs, by omega, h2, (letter_cell x hx).1⟩, Int.toNat_natCast]
  exact ⟨boardB_is _ hL, fun n hn => boardB_cel _ hL hn⟩
theorem canS_nat {s : ByteArray} (hs : isBoard s = true) {a b : Nat} (ha : a < 90) (hb : b < 90) : canS s a b = fastN (cel s) a b := by
  unfold canS
  rw [hs, decide_eq_true (by omega)]
  simp only [Int.toNat_natCast, Bool.true_and]
theorem canS_true {s : ByteArray} {a b : Int} (h : canS s a b = true) : isBoard s = true ∧ ∃ x y : Nat, a = (x : Int) ∧ b = (y : Int) ∧ x < 90 ∧ y < 90 ∧ fastN (cel s) x y = true := by
  unfold canS at h
  simp only [Bool.and_eq_true, decide_eq_true_eq] at h
  obtain ⟨⟨h1, h2, h3, h4, h5⟩, h6⟩ := h
  exact ⟨h1, a.toNat, b.toNat, by omega, by omega, by omega, by omega, h6⟩
theorem at_nat {s : ByteArray} (hs : isBoard s = true) {a : Nat} (ha : a < 90) : board_At.f s a = some ((cel s a : Nat) : Int) := by
  have h2 : ((a : Nat) : Int) < 90 := by omega
  rw [at_f, if_pos ⟨hs, by omega, h2⟩, Int.toNat_natCast]
end Go.Proofs.Ytcanbidenhcohaa.P
