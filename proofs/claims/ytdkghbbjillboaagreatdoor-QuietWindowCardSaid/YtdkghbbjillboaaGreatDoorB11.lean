/- Walks and plain laws that several statements lean on, joined: no statement of the seat is proved here. -/
import Derived.WalkKit
import Derived.ProofKit
import Derived.Deep.Slices
import Derived.WideShapes
import Derived.ChangeArms
import Derived.DataReads
import Derived.Test.YtdkghbbjillboaaGreatDoorB10
import Derived.Test.YtdkghbbjillboaaGreatDoorB9

/- Quiet's live: the boards, and what they are worth, by the kernel's reckoning. -/
namespace Go.Proofs.YtdkghbbjillboaaGreatDoor.K
open Go.RowKit Go.Lib Go.Proofs.YtdkghbbjillboaaGreatDoorW.PrintWords Go.Proofs.YtdkghbbjillboaaGreatDoor.Sp
set_option linter.unusedVariables false
set_option linter.unusedSimpArgs false
abbrev rookT : ByteArray := ⟨#[52, 107, 52, 47, 57, 47, 57, 47, 57, 47, 57, 47, 110, 55, 82, 47, 57, 47, 57, 47, 57, 47, 51, 75, 53, 32, 119]⟩
abbrev rookF : ByteArray := ⟨#[52, 107, 52, 47, 57, 47, 57, 47, 57, 47, 57, 47, 110, 55, 82, 47, 57, 47, 57, 47, 57, 47, 51, 75, 53]⟩
abbrev rookB : ByteArray := ⟨#[46, 46, 46, 75, 46, 46, 46, 46, 46, 46, 46, 46, 46, 46, 46, 46, 46, 46, 46, 46, 46, 46, 46, 46, 46, 46, 46, 46, 46, 46, 46, 46, 46, 46, 46, 46, 110, 46, 46, 46, 46, 46, 46, 46, 82, 46, 46, 46, 46, 46, 46, 46, 46, 46, 46, 46, 46, 46, 46, 46, 46, 46, 46, 46, 46, 46, 46, 46, 46, 46, 46, 46, 46, 46, 46, 46, 46, 46, 46, 46, 46, 46, 46, 46, 46, 107, 46, 46, 46, 46]⟩
abbrev rookP : Pos := ⟨rookB, 0, 0, 1⟩
theorem rook_parts : cutS rookT 32 = [rookF, ⟨#[119]⟩] ∧ (cutS rookF 47).length = 10 ∧ (cutS rookF 47).all rkOk = true ∧ strB (celTo (cutS rookF 47) 10) = rookB ∧ checkP rookP = 0 := by decide +kernel
theorem rook_parse (w : World) : Calls Tryz.prog 14 #[.string rookT] w fun e w' => e = .returned (.tuple #[posV rookP, .int .i64 0]) ∧ Below w.heap.size w w' := by
  obtain ⟨h1, h2, h3, h4, h5⟩ := rook_parts
  exact parse_c rookT (by decide) rookF h1 (by decide) _ rfl h2 h3 _ h4 h5 w
abbrev rookN : Nat := 17917957937422433684459538244547554224973163977877675184056678706175755789741828927567899934125105090560
theorem rook_on : OnB rookB (celQ rookN) := ⟨by decide +kernel, by
  have h : ∀ n : Fin 90, cel rookB n.1 = celQ rookN n.1 := by decide +kernel
  exact fun n hn => h ⟨n, hn⟩⟩
theorem rook_well : wellS rookP = 0 := by decide +kernel
abbrev bareT : ByteArray := ⟨#[52, 107, 52, 47, 57, 47, 57, 47, 57, 47, 57, 47, 57, 47, 57, 47, 57, 47, 57, 47, 51, 75, 53, 32, 119]⟩
abbrev bareF : ByteArray := ⟨#[52, 107, 52, 47, 57, 47, 57, 47, 57, 47, 57, 47, 57, 47, 57, 47, 57, 47, 57, 47, 51, 75, 53]⟩
abbrev bareB : ByteArray := ⟨#[46, 46, 46, 75, 46, 46, 46, 46, 46, 46, 46, 46, 46, 46, 46, 46, 46, 46, 46, 46, 46, 46, 46, 46, 46, 46, 46, 46, 46, 46, 46, 46, 46, 46, 46, 46, 46, 46, 46, 46, 46, 46, 46, 46, 46, 46, 46, 46, 46, 46, 46, 46, 46, 46, 46, 46, 46, 46, 46, 46, 46, 46, 46, 46, 46, 46, 46, 46, 46, 46, 46, 46, 46, 46, 46, 46, 46, 46, 46, 46, 46, 46, 46, 46, 46, 107, 46, 46, 46, 46]⟩
abbrev bareP : Pos := ⟨bareB, 0, 0, 1⟩
theorem bare_parts : cutS bareT 32 = [bareF, ⟨#[119]⟩] ∧ (cutS bareF 47).length = 10 ∧ (cutS bareF 47).all rkOk = true ∧ strB (celTo (cutS bareF 47) 10) = bareB ∧ checkP bareP = 0 := by decide +kernel
theorem bare_parse (w : World) : Calls Tryz.prog 14 #[.string bareT] w fun e w' => e = .returned (.tuple #[posV bareP, .int .i64 0]) ∧ Below w.heap.size w w' := by
  obtain ⟨h1, h2, h3, h4, h5⟩ := bare_parts
  exact parse_c bareT (by decide) bareF h1 (by decide) _ rfl h2 h3 _ h4 h5 w
abbrev bareN : Nat := 17917957937422433684459538244547554224973163977877196279199912807710334969441287563047019946172856930304
theorem bare_on : OnB bareB (celQ bareN) := ⟨by decide +kernel, by
  have h : ∀ n : Fin 90, cel bareB n.1 = celQ bareN n.1 := by decide +kernel
  exact fun n hn => h ⟨n, hn⟩⟩
theorem bare_well : wellS bareP = 0 := by decide +kernel
theorem zero_well : wellS zeroP ≠ 0 := by decide +kernel
theorem rook_few : nP rookB = 4 := by decide +kernel
theorem bare_few : nP bareB = 2 := by decide +kernel
theorem mate_few : nP mateB = 4 := by decide +kernel
theorem rook_val : valS rookB 0 = 109 := by rw [val_C rook_on]; decide +kernel
theorem rook_quiet : ofQ rookP = 204 := by
  rw [show ofQ rookP = quietP rookP from if_pos rook_well, quietP_C (p := rookP) (k := 4) rook_on (.inl rfl) rook_well (Nat.le_of_eq rook_few)]
  decide +kernel
theorem bare_quiet : ofQ bareP = 0 := by
  rw [show ofQ bareP = quietP bareP from if_pos bare_well, quietP_C (p := bareP) (k := 2) bare_on (.inl rfl) bare_well (Nat.le_of_eq bare_few)]
  decide +kernel
theorem mate_quiet : ofQ mateP = -10000 := by
  rw [show ofQ mateP = quietP mateP from if_pos mate_well, quietP_C (p := mateP) (k := 4) mate_on (.inl rfl) mate_well (Nat.le_of_eq mate_few)]
  decide +kernel
theorem knight_piece : pieceV 110 36 = 95 := by decide
end Go.Proofs.YtdkghbbjillboaaGreatDoor.K

/- Quiet's live, walked. -/
namespace Go.Proofs.YtdkghbbjillboaaGreatDoor.K
open Go.RowKit Go.Lib Go.Proofs.YtdkghbbjillboaaGreatDoorW.PrintWords Go.Proofs.YtdkghbbjillboaaGreatDoor.Sp
set_option linter.unusedVariables false
set_option linter.unusedSimpArgs false
/-- The boxes of live. -/
structure L21 (w0 W : World) (b1 b3 b5 : Nat) : Prop where
  x1 : BoxP W b1 rookP
  x3 : BoxP W b3 mateP
  x5 : BoxP W b5 bareP
  bel : Below w0.heap.size w0 W
theorem L21.below {w0 W W' : World} {b1 b3 b5 : Nat} (h : L21 w0 W b1 b3 b5) (hb : Below W.heap.size W W') : L21 w0 W' b1 b3 b5 :=
  ⟨h.x1.below hb, h.x3.below hb, h.x5.below hb, below_go h.bel hb⟩
theorem rook_win (low high r : Int) (h : r = if high ≤ low then low else min (max 204 low) high) : winQ rookP low high = r := by
  unfold winQ clipI
  rw [rook_quiet, h]
theorem zero_quiet : ofQ zeroP = 0 := if_neg zero_well
set_option maxRecDepth 100000 in
set_option maxHeartbeats 4000000 in
theorem live21_c (w : World) (hT : TabW w) : Calls Tryz.prog 7 #[] w fun e w' => e = .returned (.bool true) ∧ Below w.heap.size w w' := by
  have HT := Aside0.mk (fun (W : World) (hb : Below w.heap.size w W) => hT.below hb)
  have hr9 : wellS rookP = 0 → nP rookP.cells ≤ 9 := fun _ => by show nP rookB ≤ 9; rw [rook_few]; decide
  have HQ1 := fun (W : World) (hT : TabW W) => qof_c rookP hr9 W hT
  have HQ2 := fun (W : World) (hT : TabW W) => qof_c mateP (fun _ => by show nP mateB ≤ 9; rw [mate_few]; decide) W hT
  have HQ3 := fun (W : World) (hT : TabW W) => qof_c bareP (fun _ => by show nP bareB ≤ 9; rw [bare_few]; decide) W hT
  have HQ4 := fun (W : World) (hT : TabW W) => qof_c zeroP (fun h => absurd h zero_well) W hT
  rw [rook_quiet] at HQ1
  rw [mate_quiet] at HQ2
  rw [bare_quiet] at HQ3
  rw [zero_quiet] at HQ4
  have HQ1 := Aside0.mk HQ1
  have HQ2 := Aside0.mk HQ2
  have HQ3 := Aside0.mk HQ3
  have HQ4 := Aside0.mk HQ4
  have HW1 := fun (W : World) (hT : TabW W) => qwin_c rookP hr9 209 213 W hT
  have HW2 := fun (W : World) (hT : TabW W) => qwin_c rookP hr9 195 199 W hT
  have HW3 := fun (W : World) (hT : TabW W) => qwin_c rookP hr9 203 205 W hT
  have HW4 := fun (W : World) (hT : TabW W) => qwin_c rookP hr9 3 3 W hT
  rw [rook_win 209 213 209 (by decide)] at HW1
  rw [rook_win 195 199 199 (by decide)] at HW2
  rw [rook_win 203 205 204 (by decide)] at HW3
  rw [rook_win 3 3 3 (by decide)] at HW4
  have HW1 := Aside0.mk HW1
  have HW2 := Aside0.mk HW2
  have HW3 := Aside0.mk HW3
  have HW4 := Aside0.mk HW4
  have HV := fun (W : World) => rvof_c rookP rook_on.bd (.inl rfl) W
  rw [show valS rookP.cells rookP.side = 109 from rook_val] at HV
  have HV := Aside0.mk HV
  have HPC := fun (W : World) => rpieceV_c 110 36 (by decide) (by decide) W
  rw [knight_piece] at HPC
  have HPC := Aside0.mk HPC
  have hu := Tryz.underlying23
  clear hT hr9
  go_enter Tryz.func7, Tryz.ntmps7
  go_wp2_with fail
  refine (rook_parse _).mono ?_
  rintro e w1 ⟨rfl, hb⟩
  have H1 := Aside0.mk (show Below w.heap.size w (w1.alloc (.cells #[.string rookB, .int .i64 0, .int .i64 0, .int .i64 1] 23)) from below_new hb _)
  have X1 := Aside0.mk (BoxP.new w1 rookP)
  clear hb
  go_upto_region 2 with fail
  generalize w1.heap.size = b1 at *
  generalize (w1.alloc (.cells #[.string rookB, .int .i64 0, .int .i64 0, .int .i64 1] 23)) = w2 at *
  go_wp2_with fail
  refine (mate_parse _).mono ?_
  rintro e w3 ⟨rfl, hb⟩
  have hn := below_alloc (Below.refl w3.heap.size w3) (.cells #[.string mateB, .int .i64 0, .int .i64 0, .int .i64 1] 23)
  have H3 := Aside0.mk (below_go (below_go H1.out hb) hn)
  have X13 := Aside0.mk ((X1.out.below hb).below hn)
  have X3 := Aside0.mk (BoxP.new w3 mateP)
  clear hb hn H1 X1
  go_upto_region 3 with fail
  generalize w3.heap.size = b3 at *
  generalize (w3.alloc (.cells #[.string mateB, .int .i64 0, .int .i64 0, .int .i64 1] 23)) = w4 at *
  go_wp2_with fail
  refine (bare_parse _).mono ?_
  rintro e w5 ⟨rfl, hb⟩
  have hn := below_alloc (Below.refl w5.heap.size w5) (.cells #[.string bareB, .int .i64 0, .int .i64 0, .int .i64 1] 23)
  have H5 := Aside0.mk (show L21 w (w5.alloc (.cells #[.string bareB, .int .i64 0, .int .i64 0, .int .i64 1] 23)) b1 b3 w5.heap.size from ⟨(X13.out.below hb).below hn, (X3.out.below hb).below hn, BoxP.new w5 bareP, below_go (below_go H3.out hb) hn⟩)
  clear hb hn H3 X13 X3
  go_upto_region 4 with fail
  generalize w5.heap.size = b5 at *
  generalize (w5.alloc (.cells #[.string bareB, .int .i64 0, .int .i64 0, .int .i64 1] 23)) = w6 at *
  obtain ⟨e0, e1, e2, e3⟩ := H5.out.x1
  go_wp2_with fail
  refine (HQ1.out _ (HT.out _ H5.out.bel)).mono ?_
  rintro e w7 ⟨rfl, hb⟩
  have H7 := Aside0.mk (H5.out.below hb)
  clear hb H5 e0 e1 e2 e3
  obtain ⟨e0, e1, e2, e3⟩ := H7.out.x1
  go_wp2_with fail
  refine (HV.out _).mono ?_
  rintro e w8 ⟨rfl, hb⟩
  have H8 := Aside0.mk (H7.out.below hb)
  clear hb H7 e0 e1 e2 e3
  go_wp2_with fail
  refine (HPC.out _).mono ?_
  rintro e w9 ⟨rfl, rfl⟩
  obtain ⟨e0, e1, e2, e3⟩ := H8.out.x3
  go_wp2_with fail
  refine (HQ2.out _ (HT.out _ H8.out.bel)).mono ?_
  rintro e w10 ⟨rfl, hb⟩
  have H10 := Aside0.mk (H8.out.below hb)
  clear hb H8 e0 e1 e2 e3
  obtain ⟨e0, e1, e2, e3⟩ := H10.out.x5
  go_wp2_with fail
  refine (HQ3.out _ (HT.out _ H10.out.bel)).mono ?_
  rintro e w11 ⟨rfl, hb⟩
  have H11 := Aside0.mk (H10.out.below hb)
  clear hb H10 e0 e1 e2 e3
  obtain ⟨e0, e1, e2, e3⟩ := H11.out.x1
  go_wp2_with fail
  refine (HW1.out _ (HT.out _ H11.out.bel)).mono ?_
  rintro e w12 ⟨rfl, hb⟩
  have H12 := Aside0.mk (H11.out.below hb)
  clear hb H11 e0 e1 e2 e3
  obtain ⟨e0, e1, e2, e3⟩ := H12.out.x1
  go_wp2_with fail
  refine (HW2.out _ (HT.out _ H12.out.bel)).mono ?_
  rintro e w13 ⟨rfl, hb⟩
  have H13 := Aside0.mk (H12.out.below hb)
  clear hb H12 e0 e1 e2 e3
  obtain ⟨e0, e1, e2, e3⟩ := H13.out.x1
  go_wp2_with fail
  refine (HW3.out _ (HT.out _ H13.out.bel)).mono ?_
  rintro e w14 ⟨rfl, hb⟩
  have H14 := Aside0.mk (H13.out.below hb)
  clear hb H13 e0 e1 e2 e3
  obtain ⟨e0, e1, e2, e3⟩ := H14.out.x1
  go_wp2_with fail
  refine (HW4.out _ (HT.out _ H14.out.bel)).mono ?_
  rintro e w15 ⟨rfl, hb⟩
  have H15 := Aside0.mk (H14.out.below hb)
  clear hb H14 e0 e1 e2 e3
  go_wp2_with fail
  refine (HQ4.out _ (HT.out _ H15.out.bel)).mono ?_
  rintro e w16 ⟨rfl, hb⟩
  have H16 := Aside0.mk (H15.out.below hb)
  clear hb H15
  go_wp2_with fail
  go_ret
  exact ⟨rfl, H16.out.bel⟩
end Go.Proofs.YtdkghbbjillboaaGreatDoor.K

/- QuietOf: the walk. -/
namespace Go.Proofs.YtdkghbbjillboaaGreatDoor.K
open Go.RowKit Go.Lib Go.Proofs.YtdkghbbjillboaaGreatDoorW.PrintWords Go.Proofs.YtdkghbbjillboaaGreatDoor.Sp
set_option linter.unusedVariables false
set_option linter.unusedSimpArgs false
set_option maxRecDepth 100000 in
set_option maxHeartbeats 4000000 in
theorem quietOfLaw (w : World) (p : Pos) (low high : Int) (hmx : p.cells.size ≤ maxLen) (hT : TabW w) : Calls Tryz.prog 3 #[posV p, .int .i64 low, .int .i64 high] w fun e w' => e = .returned (.bool true) ∧ Below w.heap.size w w' := by
  have HT := Aside0.mk (fun (W : World) (hb : Below w.heap.size w W) => hT.below hb)
  have HLV := Aside0.mk (fun (W : World) (hT : TabW W) => live21_c W hT)
  have HF := Aside0.mk (fun W => few21_c p hmx 9 W)
  have HQ := Aside0.mk (fun (h9 : wellS p = 0 → nP p.cells ≤ 9) (W : World) (hT : TabW W) => qof_c p h9 W hT)
  have HW := Aside0.mk (fun (h9 : wellS p = 0 → nP p.cells ≤ 9) (W : World) (hT : TabW W) => qwin_c p h9 low high W hT)
  have HRQ := Aside0.mk (fun W => rqof_c p hmx W)
  have HRW := Aside0.mk (fun W => rqwin_c p hmx low high W)
  have hu := Tryz.underlying23
  have HP0 := Aside0.mk (LmAt.new w p)
  unfold Few21 at HF
  clear hmx hT
  go_enter Tryz.func3, Tryz.ntmps3
  go_upto_region 1 with fail
  generalize w.alloc (.cells #[.string p.cells, .int .i64 p.side, .int .i64 p.clock, .int .i64 p.full] 23) = W1 at *
  obtain ⟨c0, c1, c2, c3⟩ := HP0.out.box
  go_wp2_with fail
  refine (HF.out _).mono ?_
  rintro e w1 ⟨b, rfl, hf, hb⟩
  have HP1 := Aside0.mk (HP0.out.below hb)
  have HFB := Aside0.mk hf
  clear hb hf c0 c1 c2 c3 HP0
  cases b
  case false =>
    go_wp2_with (go_at_call 7; refine (HLV.out _ (HT.out _ HP1.out.bel)).mono ?_; rintro e w2 ⟨rfl, hb⟩; have HW2 := Aside0.mk (HP1.out.below hb).bel; clear hb)
    go_ret
    exact ⟨rfl, HW2.out⟩
  case true =>
    have H9 := Aside0.mk (fun (h : wellS p = 0) => show nP p.cells ≤ 9 by have := HFB.out rfl h; omega)
    generalize ofQ p = qv at *
    generalize winQ p low high = wv at *
    have HQ2 := Aside0.mk (fun (W : World) (hT : TabW W) => HQ.out H9.out W hT)
    have HW2 := Aside0.mk (fun (W : World) (hT : TabW W) => HW.out H9.out W hT)
    clear HQ HW HFB HF
    go_wp2_with fail
    have c0 := fun z : BelowOf w1 => z.cell HP1.out.box.c0
    have c1 := fun z : BelowOf w1 => z.cell HP1.out.box.c1
    have c2 := fun z : BelowOf w1 => z.cell HP1.out.box.c2
    have c3 := fun z : BelowOf w1 => z.cell HP1.out.box.c3
    refine wp_region_below (by kernel_rfl) ?_
    repeat (quiet_step (first
      | (go_at_call 8; exact BelowOf.calls (HQ2.out _ (HT.out _ (below_go HP1.out.bel (BelowOf.bel _)))))
      | (go_at_call 9; exact BelowOf.calls (HRQ.out _))
      | (go_at_call 10; exact BelowOf.calls (HW2.out _ (HT.out _ (below_go HP1.out.bel (BelowOf.bel _)))))
      | (go_at_call 11; exact BelowOf.calls (HRW.out _))
      | (go_at_call 7; exact BelowOf.calls (HLV.out _ (HT.out _ (below_go HP1.out.bel (BelowOf.bel _)))))))
    refine wpQuiet_nil ?_
    rintro w2 ⟨⟨_, hb⟩, rfl⟩
    have HP2 := Aside0.mk (HP1.out.below hb)
    clear hb c0 c1 c2 c3 HP1
    go_wp2_with fail
    go_ret
    exact ⟨rfl, HP2.out.bel⟩
end Go.Proofs.YtdkghbbjillboaaGreatDoor.K

/- Flat types: what a value, and a slice's elements, of structs of numbers, bools and texts hold. No program in sight. -/
namespace Go.Proofs.YtdkghbbjillboaaGreatDoor.P
open Go Go.ChangeShapes Go.WideShapes
/-- The kind of one cell. -/
inductive FK where
  | int (k : IntKind)
  | bool
  | str
def FK.has : FK → Value → Prop
  | .int k, c => ∃ n, c = .int k n ∧ (Lit.int k n).wf = true
  | .bool, c => ∃ b, c = .bool b
  | .str, c => ∃ s : ByteArray, c = .string s ∧ s.size ≤ maxLen
/-- The kinds of a struct's cells, given those of its fields. -/
def flatFs (P : Program) (g : TypeId → Option (List FK)) : List Field → Nat → Option (List FK)
  | [], _ => some []
  | f :: r, off => (g f.type).bind fun a => if f.offset = off ∧ P.cellsOf f.type = a.length then (flatFs P g r (off + a.length)).map (a ++ ·) else none
def flatT (P : Program) : Nat → TypeId → Option (List FK)
  | 0, _ => none
  | d + 1, t => match P.underlying t with
    | some .bool => some [.bool]
    | some (.int k) => some [.int k]
    | some .string => some [.str]
    | some (.struct fs) => (flatFs P (flatT P d) fs.toList 0).bind fun ks => if P.cellsOf t = ks.length then some ks else none
    | _ => none
section
variable {H : Type} {enc : TypeId × Value → H} {P : Program} {w : World} {base : Nat} {spare : Nat → Bool} {held : Bool}
theorem flatFs_cells {g : TypeId → Option (List FK)} {n : Nat} {cs : List Value}
    (ih : ∀ t ks, g t = some ks → ∀ cs x, DataW.trod enc P w base spare held n t cs = some x → cs.length = ks.length ∧ ∀ (i : Nat) (k : FK) (c : Value), ks[i]? = some k → cs[i]? = some c → k.has c) :
    ∀ (l : List Field) (off : Nat) (ks : List FK), flatFs P g l off = some ks → (∀ f ∈ l, ∃ y, DataW.trod enc P w base spare held n f.type ((cs.drop f.offset).take (P.cellsOf f.type)) = some y) →
      ∀ (i : Nat) (k : FK) (c : Value), ks[i]? = some k → cs[off + i]? = some c → k.has c
  | [], off, ks, h, _, i, k, c, hk, _ => by
    simp only [flatFs, Option.some.injEq] at h
    subst h
    simp at hk
  | f :: r, off, ks, h, hy, i, k, c, hk, hc => by
    simp only [flatFs, Option.bind_eq_some_iff] at h
    obtain ⟨a, ha, h⟩ := h
    split at h
    · rename_i hh
      obtain ⟨h1, h2⟩ := hh
      simp only [Option.map_eq_some_iff] at h
      obtain ⟨b, hb, rfl⟩ := h
      obtain ⟨y, hy0⟩ := hy f (by simp)
      obtain ⟨hl, hh⟩ := ih _ _ ha _ _ hy0
      by_cases hi : i < a.length
      · rw [List.getElem?_append_left hi] at hk
        refine hh i k c hk ?_
        rw [List.getElem?_take, List.getElem?_drop, h1, h2, if_pos hi]
        exact hc
      · rw [List.getElem?_append_right (by omega)] at hk
        refine flatFs_cells ih r (off + a.length) b hb (fun f hf => hy f (by simp [hf])) (i - a.length) k c hk ?_
        rw [show off + a.length + (i - a.length) = off + i by omega]
        exact hc
    · cases h
theorem flat_cells : ∀ (d : Nat) (t : TypeId) (ks : List FK), flatT P d t = some ks → ∀ (n : Nat) (cs : List Value) (x : DataW H × List MemPlace), DataW.trod enc P w base spare held n t cs = some x →
    cs.length = ks.length ∧ ∀ (i : Nat) (k : FK) (c : Value), ks[i]? = some k → cs[i]? = some c → k.has c
  | 0, _, _, h => by simp [flatT] at h
  | d + 1, t, ks, h => by
    intro n cs x hx
    unfold flatT at h
    split at h
    · rename_i ht
      obtain rfl := Option.some.inj h
      obtain ⟨b, rfl, rfl⟩ := DataW.trod_bool ht hx
      refine ⟨rfl, fun i k c hk hc => ?_⟩
      match i with
      | 0 => simp at hk hc; subst hk hc; exact ⟨b, rfl⟩
      | i + 1 => simp at hk
    · rename_i k ht
      obtain rfl := Option.some.inj h
      obtain ⟨m, rfl, rfl, hw⟩ := DataW.trod_int ht hx
      refine ⟨rfl, fun i k c hk hc => ?_⟩
      match i with
      | 0 => simp at hk hc; subst hk hc; exact ⟨m, rfl, hw⟩
      | i + 1 => simp at hk
    · rename_i ht
      obtain rfl := Option.some.inj h
      obtain ⟨s, rfl, rfl, hs⟩ := DataW.trod_string ht hx
      refine ⟨rfl, fun i k c hk hc => ?_⟩
      match i with
      | 0 => simp at hk hc; subst hk hc; exact ⟨s, rfl, hs⟩
      | i + 1 => simp at hk
    · rename_i fs ht
      simp only [Option.bind_eq_some_iff] at h
      obtain ⟨ks', hks, h⟩ := h
      split at h
      · rename_i hsz
        obtain rfl := Option.some.inj h
        obtain ⟨xs, m, rfl, rfl, hlen, hxl, hf⟩ := DataW.trod_struct ht hx
        refine ⟨hlen.trans hsz, ?_⟩
        have := flatFs_cells (enc := enc) (w := w) (base := base) (spare := spare) (held := held) (n := m) (cs := cs) (fun t ks hg => flat_cells d t ks hg m) fs.toList 0 ks' hks (by
          intro f hfm
          obtain ⟨i, hi⟩ := List.getElem?_of_mem hfm
          have hfi : fs[i]? = some f := by simpa using hi
          have h1 := hf i f hfi
          have hlt : i < xs.length := by
            rw [hxl]
            rcases Nat.lt_or_ge i fs.size with h | h
            · exact h
            · simp [Array.getElem?_eq_none h] at hfi
          exact ⟨xs[i], h1.trans (List.getElem?_eq_getElem hlt)⟩)
        intro i k c hk hc
        exact this i k c hk (by simpa using hc)
      · cases h
    · cases h
/-- A slice of flat elements: its cells. -/
theorem flat_slice {t e : TypeId} {d : Nat} {ks : List FK} {n : Nat} {a : Option Addr} {len cap : Nat} {x : DataW H × List MemPlace} (ht : P.underlying t = some (.slice e)) (he : flatT P d e = some ks) (hc : P.cellsOf e = ks.length)
    (h : DataW.trod enc P w base spare held n t [.slice a len cap] = some x) :
    (a = none ∧ len = 0 ∧ cap = 0) ∨ ∃ ad, a = some ad ∧ len ≤ cap ∧ cap ≤ maxLen ∧ ∀ i, i < len → ∀ (j : Nat) (k : FK), ks[j]? = some k → ∃ c, w.cell? (ad.add (i * ks.length + j)) = some c ∧ k.has c := by
  rcases Deep.open_slice ht h with ⟨h0, _⟩ | ⟨ad, len', cap', m, n', D, Pl, h0, hb, hl, hm, hmm, _, hx⟩
  · simp at h0; exact .inl h0
  · simp only [List.cons.injEq, Value.slice.injEq, and_true] at h0
    obtain ⟨rfl, rfl, rfl⟩ := h0
    refine .inr ⟨ad, rfl, hl, hm, fun i hi j k hj => ?_⟩
    have hlm : len ≤ m := by rw [hmm]; split <;> omega
    obtain ⟨cs, h1, h2⟩ := hx i (by omega)
    obtain ⟨_, hlen, hcell⟩ := World.cells?_some h1
    obtain ⟨hcl, hch⟩ := flat_cells d e ks he _ _ _ h2
    have hjk : j < ks.length := by
      rcases Nat.lt_or_ge j ks.length with h | h
      · exact h
      · simp [List.getElem?_eq_none h] at hj
    have hjc : j < cs.length := by omega
    have := hcell j (by omega)
    rw [Deep.add_add, hc, List.getElem?_eq_getElem hjc] at this
    exact ⟨_, this, hch j k _ hj (List.getElem?_eq_getElem hjc)⟩
end
theorem list_cons {α : Type} {l : List α} {n : Nat} (h : l.length = n + 1) : ∃ x r, l = x :: r ∧ r.length = n := by
  cases l with
  | nil => simp at h
  | cons x r => exact ⟨x, r, rfl, by simpa using h⟩
theorem list_nil {α : Type} {l : List α} (h : l.length = 0) : l = [] := List.length_eq_zero_iff.1 h
theorem wf_u64 {n : Int} (h : (Lit.int .u64 n).wf = true) : 0 ≤ n := by
  simp only [Lit.wf, Bool.and_eq_true, decide_eq_true_eq] at h
  have h1 := h.1
  simp [IntKind.min, IntKind.signed] at h1
  exact h1
theorem wf_i64 {n : Int} (h : (Lit.int .i64 n).wf = true) : -9223372036854775808 ≤ n ∧ n ≤ 9223372036854775807 := by
  simp only [Lit.wf, Bool.and_eq_true, decide_eq_true_eq] at h
  obtain ⟨h1, h2⟩ := h
  simp [IntKind.min, IntKind.max, IntKind.signed, IntKind.bits] at h1 h2
  exact ⟨h1, h2⟩
theorem wf_u8 {n : Int} (h : (Lit.int .u8 n).wf = true) : 0 ≤ n ∧ n ≤ 255 := by
  simp only [Lit.wf, Bool.and_eq_true, decide_eq_true_eq] at h
  obtain ⟨h1, h2⟩ := h
  simp [IntKind.min, IntKind.max, IntKind.signed, IntKind.bits] at h1 h2
  exact ⟨h1, h2⟩
end Go.Proofs.YtdkghbbjillboaaGreatDoor.P
