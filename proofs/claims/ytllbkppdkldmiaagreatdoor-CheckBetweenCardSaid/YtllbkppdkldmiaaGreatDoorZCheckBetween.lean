/- CheckBetween: generals face one another no more, if a piece is put between them. No conditions. -/
import Derived.Test.YtllbkppdkldmiaaGreatDoorRows
import Derived.WalkKit
import Derived.ProofKit
import Derived.OpenShut
import Derived.ShutString
import Derived.ChangeOld
import Derived.Below
import Derived.SizedLaws
import Derived.Carry
import Derived.Test.YtllbkppdkldmiaaGreatDoorB2
import Derived.Test.YtllbkppdkldmiaaGreatDoorB11
import Derived.Test.YtllbkppdkldmiaaGreatDoorB7

/- CheckBetween: generals face one another no more, if a piece is put between them. No conditions. -/
namespace Go.Proofs.YtllbkppdkldmiaaGreatDoor.checkBetween
open Go.ChangeShapes Go.WideShapes Go.ChangeAt Go.RowKit Go.Proofs.YtllbkppdkldmiaaGreatDoor.P
open Go.ChangeMaps (open_string shut_string)
set_option linter.unusedVariables false
theorem own : ownKnob Tryz.prog.godebug = none := by kernel_rfl
theorem laidOut : laidOutB Tryz.prog = true := by kernel_rfl
set_option maxRecDepth 100000 in
theorem lifted (os : Os) (started : os.Started) (H : Type) (enc : TypeId × Value → H) :
    ReturnsInHanded {} Tryz.checked os 6 .any (fun w args => (Rows.checkBetweenSpec.pre enc Tryz.prog Tryz.f6 Rows.checkBetweenRow.domain false w args ∧ laidMetH Tryz.prog Rows.checkBetweenRow.laid w) ∧ sizedMet enc Tryz.prog Tryz.f6 (OpenSpec.ofChange Rows.checkBetweenSpec) false w args) (Rows.checkBetweenSpec.post enc Tryz.prog Tryz.f6 false true false false) := by
  refine returnsInHanded_of_change_and (C := Tryz.checked) (X := fun w _ => laidMetH Tryz.prog Rows.checkBetweenRow.laid w) (fun _ _ _ hh h => h.of_heap hh) own started (by kernel_rfl) Tryz.func6
    (ChangeSpec.witness_shaped (enc := enc) (C := Tryz.checked) (os := os) (X := fun w _ => laidMetH Tryz.prog Rows.checkBetweenRow.laid w) false (World.laidAll Tryz.prog os K.laidL) #[.string ByteArray.empty, .int .i64 0, .int .u8 0] 8 (World.laidAll_os _ _ _)
      (K.wit_shaped _ _) (by kernel_rfl) (by kernel_rfl) (by kernel_rfl) (K.wit_laid _ _)) ?_
  intro W base args ds gs before hval0 hW hcnd hsz0 hL _
  have hT : K.TabW W := K.tab_of_laid W hL
  have hsz : (DataW.weightsEach Tryz.prog (Tryz.f6.params.toList ++ Rows.checkBetweenSpec.plain.varTypes Tryz.prog) (ds ++ gs)).all (· ≤ reachBytes) = true := hsz0
  have hval : ∀ (j : Nat) t v, Tryz.f6.params[j]? = some t → args[j]? = some v → Value.okWide Tryz.prog W .any base t v := hval0
  have hW' := hW
  obtain ⟨p, q, hA0, hV, rfl, hfz, hnd⟩ := hW
  have hA : DataW.TrodAll enc Tryz.prog W 0 (fun _ => true) true Tryz.f6.params.toList args.toList ds p := hA0
  rw [Tryz.params6] at hA hval hsz
  obtain ⟨v0, vs0, d0, ds0, p0, q0, hargs, rfl, rfl, h0, r0⟩ := trodAll_cons hA
  obtain ⟨v1, vs1, d1, ds1, p1, q1, rfl, rfl, rfl, h1, r1⟩ := trodAll_cons r0
  obtain ⟨v2, vs2, d2, ds2, p2, q2, rfl, rfl, rfl, h2, r2⟩ := trodAll_cons r1
  obtain ⟨rfl, rfl, rfl⟩ := trodAll_nil r2
  obtain rfl : args = #[v0, v1, v2] := by cases args; simp_all
  obtain ⟨rfl, rfl⟩ := trodVars_none hV
  have k0 := h0
  obtain ⟨a0, rfl, rfl, rfl, y0⟩ := open_string Tryz.underlying9 (hval 0 9 v0 rfl rfl) h0
  have w0 : a0.size ≤ 140737488351232 := by
    have z := sized_string hsz (j := 0) (t := 9) rfl rfl
    rw [Array.length_toList] at z
    exact z
  have k1 := h1
  obtain ⟨a1, rfl, rfl, rfl, w1⟩ := open_int Tryz.underlying3 (hval 1 3 v1 rfl rfl) h1
  have k2 := h2
  obtain ⟨a2, rfl, rfl, rfl, w2⟩ := open_int Tryz.underlying5 (hval 2 5 v2 rfl rfl) h2
  obtain ⟨c2, rfl⟩ : ∃ c2 : Nat, a2 = (c2 : Int) := ⟨a2.toNat, by have := wf_u8 w2; omega⟩
  clear hA0 hval0 hsz0 hsz
  refine (K.betweenLaw W a0 a1 c2 (wf_i64 w1) (by have := wf_u8 w2; omega) (by unfold maxLen; omega) hT).mono fun e W' ⟨he, bel⟩ => ?_
  subst he
  exact ⟨_, rfl, _, _, _, [], _, [], hW', trodAll_mk1 (shut_bool Tryz.underlying4 _), (trodAll_cons_mk (Below.trod laidOut (by kernel_rfl) (of_decide_eq_true (by kernel_rfl)) k0 bel (by obtain ⟨m, hm⟩ := k0; exact DataW.trod_lt m _ _ _ hm)) (trodAll_cons_mk (Below.trod laidOut (by kernel_rfl) (of_decide_eq_true (by kernel_rfl)) k1 bel (by obtain ⟨m, hm⟩ := k1; exact DataW.trod_lt m _ _ _ hm)) (trodAll_cons_mk (Below.trod laidOut (by kernel_rfl) (of_decide_eq_true (by kernel_rfl)) k2 bel (by obtain ⟨m, hm⟩ := k2; exact DataW.trod_lt m _ _ _ hm)) trodAll_mk0))), rfl, bel.frame _, fun h => by cases h⟩
theorem over : Rows.checkBetweenRow.holds Tryz.pinned (OpenSpec.ofChange Rows.checkBetweenSpec) :=
  OpenClaim.holds_of_wide 6 Tryz.f6 rfl rfl rfl rfl rfl rfl rfl ⟨rfl, rfl, rfl, rfl, rfl⟩ rfl rfl rfl rfl rfl (by kernel_rfl) Tryz.func6 (by kernel_rfl)
    (of_decide_eq_true (by kernel_rfl)) (by unfold Func.isWrapper; first | (rw [if_pos (by decide +kernel)]; kernel_rfl) | (rw [if_neg (by decide +kernel)]; exact ⟨rfl, rfl⟩))
    (fun os started H enc _ => lifted os started H enc)
theorem proved : Rows.CheckBetweenSaid := over
end Go.Proofs.YtllbkppdkldmiaaGreatDoor.checkBetween
