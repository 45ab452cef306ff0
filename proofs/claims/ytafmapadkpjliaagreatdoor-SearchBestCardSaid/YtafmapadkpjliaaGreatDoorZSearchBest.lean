/- SearchBest: the best one of any moves, with a table of any size, again and again with the same one, or why there is none, is the document's answer. No conditions. -/
import Derived.Test.YtafmapadkpjliaaGreatDoorRows
import Derived.WalkKit
import Derived.ProofKit
import Derived.OpenShut
import Derived.ShutString
import Derived.ChangeOld
import Derived.Below
import Derived.SizedLaws
import Derived.Carry
import Derived.Test.YtafmapadkpjliaaGreatDoorB2
import Derived.Test.YtafmapadkpjliaaGreatDoorB16
import Derived.Test.YtafmapadkpjliaaGreatDoorB14

/- SearchBest: the best one of any moves, with a table of any size, again and again with the same one, or why there is none, is the document's answer. No conditions. -/
namespace Go.Proofs.YtafmapadkpjliaaGreatDoor.searchBest
open Go.ChangeShapes Go.WideShapes Go.ChangeAt Go.RowKit Go.Proofs.YtafmapadkpjliaaGreatDoor.P
open Go.ChangeMaps (open_string shut_string)
set_option linter.unusedVariables false
theorem own : ownKnob Tryz.prog.godebug = none := by kernel_rfl
theorem laidOut : laidOutB Tryz.prog = true := by kernel_rfl
set_option maxRecDepth 100000 in
theorem lifted (os : Os) (started : os.Started) (H : Type) (enc : TypeId × Value → H) :
    ReturnsInHanded {} Tryz.checked os 4 .any (fun w args => (Rows.searchBestSpec.pre enc Tryz.prog Tryz.f4 Rows.searchBestRow.domain false w args ∧ laidMetH Tryz.prog Rows.searchBestRow.laid w) ∧ sizedMet enc Tryz.prog Tryz.f4 (OpenSpec.ofChange Rows.searchBestSpec) false w args) (Rows.searchBestSpec.post enc Tryz.prog Tryz.f4 false true false false) := by
  refine returnsInHanded_of_change_and (C := Tryz.checked) (X := fun w _ => laidMetH Tryz.prog Rows.searchBestRow.laid w) (fun _ _ _ hh h => h.of_heap hh) own started (by kernel_rfl) Tryz.func4
    (ChangeSpec.witness_shaped (enc := enc) (C := Tryz.checked) (os := os) (X := fun w _ => laidMetH Tryz.prog Rows.searchBestRow.laid w) false (World.laidAll Tryz.prog os K.laidL) #[.agg #[.string ByteArray.empty, .int .i64 0, .int .i64 0, .int .i64 0, .int .i64 0, .slice none 0 0, .int .i64 0]] 8 (World.laidAll_os _ _ _)
      (K.wit_shaped _ _) (by kernel_rfl) (by kernel_rfl) (by kernel_rfl) (K.wit_laid _ _)) ?_
  intro W base args ds gs before hval0 hW hcnd hsz0 hL _
  have hT : K.TabW W := K.tab_of_laid W hL
  have hsz : (DataW.weightsEach Tryz.prog (Tryz.f4.params.toList ++ Rows.searchBestSpec.plain.varTypes Tryz.prog) (ds ++ gs)).all (· ≤ reachBytes) = true := hsz0
  have hval : ∀ (j : Nat) t v, Tryz.f4.params[j]? = some t → args[j]? = some v → Value.okWide Tryz.prog W .any base t v := hval0
  have hW' := hW
  obtain ⟨p, q, hA0, hV, rfl, hfz, hnd⟩ := hW
  have hA : DataW.TrodAll enc Tryz.prog W 0 (fun _ => true) true Tryz.f4.params.toList args.toList ds p := hA0
  rw [Tryz.params4] at hA hval hsz
  obtain ⟨v0, vs0, d0, ds0, p0, q0, hargs, rfl, rfl, h0, r0⟩ := trodAll_cons hA
  obtain ⟨rfl, rfl, rfl⟩ := trodAll_nil r0
  obtain rfl : args = #[v0] := by cases args; simp_all
  obtain ⟨rfl, rfl⟩ := trodVars_none hV
  obtain ⟨cs0, rfl, sz0⟩ := okWide_struct Tryz.underlying31 (hval 0 31 v0 rfl rfl)
  have k0 := h0
  obtain ⟨fu0, hf0⟩ := h0
  obtain ⟨cs0⟩ := cs0
  obtain ⟨s0, a0, b0, c0, d0, A0, len0, cap0, e0, hcs0, hs0, hm0⟩ := K.case_cells hf0
  have hcs1 : cs0 = [.string s0, .int .i64 a0, .int .i64 b0, .int .i64 c0, .int .i64 d0, .slice A0 len0 cap0, .int .i64 e0] := hcs0
  subst hcs1
  obtain ⟨M, g, hrow⟩ := K.row_of22 hm0
  clear hA0 hval0 hsz0 hsz
  refine (K.searchBestLaw W ⟨s0, a0, b0, c0⟩ d0 M g _ e0 hs0 hrow hT).mono fun e W' ⟨he, bel⟩ => ?_
  subst he
  exact ⟨_, rfl, _, _, _, [], _, [], hW', trodAll_mk1 (shut_bool Tryz.underlying4 _), (trodAll_cons_mk (Below.trod laidOut (by kernel_rfl) (of_decide_eq_true (by kernel_rfl)) k0 bel (by obtain ⟨m, hm⟩ := k0; exact DataW.trod_lt m _ _ _ hm)) trodAll_mk0), rfl, bel.frame _, fun h => by cases h⟩
theorem over : Rows.searchBestRow.holds Tryz.pinned (OpenSpec.ofChange Rows.searchBestSpec) :=
  OpenClaim.holds_of_wide 4 Tryz.f4 rfl rfl rfl rfl rfl rfl rfl ⟨rfl, rfl, rfl, rfl, rfl⟩ rfl rfl rfl rfl rfl (by kernel_rfl) Tryz.func4 (by kernel_rfl)
    (of_decide_eq_true (by kernel_rfl)) (by unfold Func.isWrapper; first | (rw [if_pos (by decide +kernel)]; kernel_rfl) | (rw [if_neg (by decide +kernel)]; exact ⟨rfl, rfl⟩))
    (fun os started H enc _ => lifted os started H enc)
theorem proved : Rows.SearchBestSaid := over
end Go.Proofs.YtafmapadkpjliaaGreatDoor.searchBest
