/- SearchLimited: whatever is looked at, what is told is the best one of some depth that was asked for; of the whole, if enough may be looked at. No conditions. -/
import Derived.Test.YtafmapadkpjliaaGreatDoorRows
import Derived.WalkKit
import Derived.ProofKit
import Derived.OpenShut
import Derived.ShutString
import Derived.ChangeOld
import Derived.Below
import Derived.SizedLaws
import Derived.Carry
import Derived.Test.YtafmapadkpjliaaGreatDoorB2
import Derived.Test.YtafmapadkpjliaaGreatDoorB15
import Derived.Test.YtafmapadkpjliaaGreatDoorB14

/- SearchLimited: whatever is looked at, what is told is the best one of some depth that was asked for; of the whole, if enough may be looked at. No conditions. -/
namespace Go.Proofs.YtafmapadkpjliaaGreatDoor.searchLimited
open Go.ChangeShapes Go.WideShapes Go.ChangeAt Go.RowKit Go.Proofs.YtafmapadkpjliaaGreatDoor.P
open Go.ChangeMaps (open_string shut_string)
set_option linter.unusedVariables false
theorem own : ownKnob Tryz.prog.godebug = none := by kernel_rfl
theorem laidOut : laidOutB Tryz.prog = true := by kernel_rfl
set_option maxRecDepth 100000 in
theorem lifted (os : Os) (started : os.Started) (H : Type) (enc : TypeId × Value → H) :
    ReturnsInHanded {} Tryz.checked os 5 .any (fun w args => (Rows.searchLimitedSpec.pre enc Tryz.prog Tryz.f5 Rows.searchLimitedRow.domain false w args ∧ laidMetH Tryz.prog Rows.searchLimitedRow.laid w) ∧ sizedMet enc Tryz.prog Tryz.f5 (OpenSpec.ofChange Rows.searchLimitedSpec) false w args) (Rows.searchLimitedSpec.post enc Tryz.prog Tryz.f5 false true false false) := by
  refine returnsInHanded_of_change_and (C := Tryz.checked) (X := fun w _ => laidMetH Tryz.prog Rows.searchLimitedRow.laid w) (fun _ _ _ hh h => h.of_heap hh) own started (by kernel_rfl) Tryz.func5
    (ChangeSpec.witness_shaped (enc := enc) (C := Tryz.checked) (os := os) (X := fun w _ => laidMetH Tryz.prog Rows.searchLimitedRow.laid w) false (World.laidAll Tryz.prog os K.laidL) #[.agg #[.string ByteArray.empty, .int .i64 0, .int .i64 0, .int .i64 0], .int .i64 0, .int .i64 0] 8 (World.laidAll_os _ _ _)
      (K.wit_shaped _ _) (by kernel_rfl) (by kernel_rfl) (by kernel_rfl) (K.wit_laid _ _)) ?_
  intro W base args ds gs before hval0 hW hcnd hsz0 hL _
  have hT : K.TabW W := K.tab_of_laid W hL
  have hsz : (DataW.weightsEach Tryz.prog (Tryz.f5.params.toList ++ Rows.searchLimitedSpec.plain.varTypes Tryz.prog) (ds ++ gs)).all (· ≤ reachBytes) = true := hsz0
  have hval : ∀ (j : Nat) t v, Tryz.f5.params[j]? = some t → args[j]? = some v → Value.okWide Tryz.prog W .any base t v := hval0
  have hW' := hW
  obtain ⟨p, q, hA0, hV, rfl, hfz, hnd⟩ := hW
  have hA : DataW.TrodAll enc Tryz.prog W 0 (fun _ => true) true Tryz.f5.params.toList args.toList ds p := hA0
  rw [Tryz.params5] at hA hval hsz
  obtain ⟨v0, vs0, d0, ds0, p0, q0, hargs, rfl, rfl, h0, r0⟩ := trodAll_cons hA
  obtain ⟨v1, vs1, d1, ds1, p1, q1, rfl, rfl, rfl, h1, r1⟩ := trodAll_cons r0
  obtain ⟨v2, vs2, d2, ds2, p2, q2, rfl, rfl, rfl, h2, r2⟩ := trodAll_cons r1
  obtain ⟨rfl, rfl, rfl⟩ := trodAll_nil r2
  obtain rfl : args = #[v0, v1, v2] := by cases args; simp_all
  obtain ⟨rfl, rfl⟩ := trodVars_none hV
  obtain ⟨cs0, rfl, sz0⟩ := okWide_struct Tryz.underlying23 (hval 0 23 v0 rfl rfl)
  have k0 := h0
  obtain ⟨fu0, hf0⟩ := h0
  obtain ⟨hl0, hc0⟩ := flat_cells 8 23 [.str, .int .i64, .int .i64, .int .i64] (by kernel_rfl) _ _ _ hf0
  obtain ⟨cs0⟩ := cs0
  have hl0 : cs0.length = 4 := hl0
  obtain ⟨c0_0, r0_0, rfl, hl0_0⟩ := list_cons hl0
  obtain ⟨c0_1, r0_1, rfl, hl0_1⟩ := list_cons hl0_0
  obtain ⟨c0_2, r0_2, rfl, hl0_2⟩ := list_cons hl0_1
  obtain ⟨c0_3, r0_3, rfl, hl0_3⟩ := list_cons hl0_2
  obtain rfl := list_nil hl0_3
  obtain ⟨n0_0, rfl, w0_0⟩ := hc0 0 _ _ rfl rfl
  obtain ⟨n0_1, rfl, w0_1⟩ := hc0 1 _ _ rfl rfl
  obtain ⟨n0_2, rfl, w0_2⟩ := hc0 2 _ _ rfl rfl
  obtain ⟨n0_3, rfl, w0_3⟩ := hc0 3 _ _ rfl rfl
  clear hc0
  have k1 := h1
  obtain ⟨a1, rfl, rfl, rfl, w1⟩ := open_int Tryz.underlying3 (hval 1 3 v1 rfl rfl) h1
  have k2 := h2
  obtain ⟨a2, rfl, rfl, rfl, w2⟩ := open_int Tryz.underlying3 (hval 2 3 v2 rfl rfl) h2
  have hw2 := (wf_i64 w2).2
  clear hA0 hval0 hsz0 hsz
  refine (K.searchLimitedLaw W ⟨n0_0, n0_1, n0_2, n0_3⟩ a1 a2 w0_0 hw2 hT).mono fun e W' ⟨he, bel⟩ => ?_
  subst he
  exact ⟨_, rfl, _, _, _, [], _, [], hW', trodAll_mk1 (shut_bool Tryz.underlying4 _), (trodAll_cons_mk (Below.trod laidOut (by kernel_rfl) (of_decide_eq_true (by kernel_rfl)) k0 bel (by obtain ⟨m, hm⟩ := k0; exact DataW.trod_lt m _ _ _ hm)) (trodAll_cons_mk (Below.trod laidOut (by kernel_rfl) (of_decide_eq_true (by kernel_rfl)) k1 bel (by obtain ⟨m, hm⟩ := k1; exact DataW.trod_lt m _ _ _ hm)) (trodAll_cons_mk (Below.trod laidOut (by kernel_rfl) (of_decide_eq_true (by kernel_rfl)) k2 bel (by obtain ⟨m, hm⟩ := k2; exact DataW.trod_lt m _ _ _ hm)) trodAll_mk0))), rfl, bel.frame _, fun h => by cases h⟩
theorem over : Rows.searchLimitedRow.holds Tryz.pinned (OpenSpec.ofChange Rows.searchLimitedSpec) :=
  OpenClaim.holds_of_wide 5 Tryz.f5 rfl rfl rfl rfl rfl rfl rfl ⟨rfl, rfl, rfl, rfl, rfl⟩ rfl rfl rfl rfl rfl (by kernel_rfl) Tryz.func5 (by kernel_rfl)
    (of_decide_eq_true (by kernel_rfl)) (by unfold Func.isWrapper; first | (rw [if_pos (by decide +kernel)]; kernel_rfl) | (rw [if_neg (by decide +kernel)]; exact ⟨rfl, rfl⟩))
    (fun os started H enc _ => lifted os started H enc)
theorem proved : Rows.SearchLimitedSaid := over
end Go.Proofs.YtafmapadkpjliaaGreatDoor.searchLimited
