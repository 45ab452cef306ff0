/- ReachOwn: for every text and every square: All's list is rising, holds squares that Can lets, never the square itself nor one with a piece of the same side; it is empty where no piece stands. No condition of ours. -/
import Derived.Test.YtcanbidenhcohaaRows
import Derived.WalkKit
import Derived.ProofKit
import Derived.OpenShut
import Derived.ShutString
import Derived.ChangeOld
import Derived.Below
import Derived.SizedLaws
import Derived.Test.YtcanbidenhcohaaB10

/- ReachOwn: for every text and every square: All's list is rising, holds squares that Can lets, never the square itself nor one with a piece of the same side; it is empty where no piece stands. No condition of ours. -/
namespace Go.Proofs.Ytcanbidenhcohaa.Pure
open Go.RowKit Go.Proofs.Ytcanbidenhcohaa.P Go.Proofs.YtcanbidenhcohaaW.PrintWords Go.Proofs.YtcanbidenhcohaaW.PrintLast
open Sp
set_option linter.unusedVariables false
theorem own_mem (l : List Int) (x : Int) (h0 : 0 ≤ x) (h1 : x < (l.length : Int)) : rd l x ∈ l := by
  have h : x.toNat < l.length := by omega
  have : rd l x = l[x.toNat] := by simp [rd, h]
  rw [this]
  exact List.getElem_mem h
theorem own_rise (s : ByteArray) (a : Int) : (ints (allS s a)).Pairwise (· < ·) := by
  unfold ints allS
  split
  · rw [List.pairwise_map]
    unfold allN
    refine List.Pairwise.imp ?_ (List.Pairwise.filter _ List.pairwise_lt_range)
    intro u v h
    exact Int.ofNat_lt.2 h
  · exact List.Pairwise.nil
theorem own_fast {c : Nat → Nat} {a b : Nat} (h : fastN c a b = true) : 0 ≤ sideN (c a) ∧ sideN (c b) ≠ sideN (c a) := by
  unfold fastN at h
  simp only [Bool.and_eq_true, decide_eq_true_eq, bne_iff_ne, ne_eq] at h
  exact h.1
theorem own_ok (s : ByteArray) (a : Int) : ∃ c sd, OwnOk s a (ints (allS s a)) c sd := by
  have key : ∀ x : Int, 0 ≤ x → x < ((ints (allS s a)).length : Int) → canS s a (rd (ints (allS s a)) x) = true := fun x h0 h1 => (mem_allS _ _ _).1 (own_mem _ x h0 h1)
  have hat := at_f s a
  have hrise : ∀ x y : Int, 0 ≤ y → y + 1 = x → x < ((ints (allS s a)).length : Int) → decide (rd (ints (allS s a)) x ≤ rd (ints (allS s a)) y) = false := by
    intro x y h0 h1 h2
    have hp := own_rise s a
    generalize ints (allS s a) = l at hp h2 ⊢
    have hx : x.toNat < l.length := by omega
    have hy : y.toNat < l.length := by omega
    have e1 : rd l x = l[x.toNat] := by simp [rd, hx]
    have e2 : rd l y = l[y.toNat] := by simp [rd, hy]
    have := List.pairwise_iff_getElem.1 hp y.toNat x.toNat hy hx (by omega)
    rw [e1, e2]
    exact decide_eq_false (by omega)
  by_cases hc : isBoard s = true ∧ 0 ≤ a ∧ a < 90
  · rw [if_pos hc] at hat
    obtain ⟨hs, a0, a9⟩ := hc
    obtain ⟨n, rfl⟩ : ∃ x : Nat, a = (x : Int) := ⟨a.toNat, by omega⟩
    rw [Int.toNat_natCast] at hat
    refine ⟨_, sideN (cel s n), allS_len s n, hat, side_f _ (cel_lt s n), all_f s n, ?_, ?_, ?_, ?_, hrise, ?_, ?_⟩
    · intro x h0 h1
      obtain ⟨_, u, v, e1, e2, hu, hv, hf⟩ := canS_true (key x h0 h1)
      obtain ⟨g1, g2⟩ := own_fast hf
      rw [e2]
      apply beq_eq_false_iff_ne.2
      intro e
      have : v = u := by omega
      rw [this] at g2
      exact g2 rfl
    · intro x h0 h1
      obtain ⟨_, u, v, e1, e2, hu, hv, hf⟩ := canS_true (key x h0 h1)
      rw [e2]
      exact decide_eq_false (by omega)
    · intro x h0 h1
      obtain ⟨_, u, v, e1, e2, hu, hv, hf⟩ := canS_true (key x h0 h1)
      rw [e2]
      exact decide_eq_false (by omega)
    · intro x h0 h1
      obtain ⟨_, u, v, e1, e2, hu, hv, hf⟩ := canS_true (key x h0 h1)
      obtain ⟨g1, g2⟩ := own_fast hf
      have : u = n := by omega
      subst this
      rw [e2]
      exact ⟨_, _, at_nat hs hv, side_f _ (cel_lt s v), beq_eq_false_iff_ne.2 g2⟩
    · intro x h0 h1
      rw [can_f _ _ _ 100 (by omega), key x h0 h1]
    · intro hsd
      have hneg : ¬ 0 ≤ sideN (cel s n) := of_decide_eq_false hsd
      cases hl : (ints (allS s n)).length with
      | zero => rfl
      | succ m =>
        obtain ⟨_, u, v, e1, e2, hu, hv, hf⟩ := canS_true (key 0 (by omega) (by rw [hl]; omega))
        obtain ⟨g1, g2⟩ := own_fast hf
        have : u = n := by omega
        subst this
        exact absurd g1 hneg
  · rw [if_neg hc] at hat
    have hz : ints (allS s a) = [] := by unfold allS; rw [if_neg hc]; rfl
    have no : ∀ x : Int, 0 ≤ x → x < ((ints (allS s a)).length : Int) → False := by intro x h0 h1; rw [hz] at h1; simp at h1; omega
    refine ⟨46, -1, allS_len s a, hat, rfl, all_f s a, fun x h0 h1 => (no x h0 h1).elim, fun x h0 h1 => (no x h0 h1).elim, fun x h0 h1 => (no x h0 h1).elim, fun x h0 h1 => (no x h0 h1).elim, hrise, fun x h0 h1 => (no x h0 h1).elim, fun _ => by rw [hz]; rfl⟩
theorem ReachOwn_walk (a0 : ByteArray) (a1 : Int) (w : World) (w0 : a0.size ≤ 140737488351232) (w1 : (Lit.int .i64 a1).wf = true) :
    Calls Try.prog 5 #[.string a0, .int .i64 a1] w fun e w' => e = .returned (.bool true) ∧ Below w.heap.size w w' := by
  obtain ⟨c, sd, h⟩ := own_ok a0 a1
  exact own_walk a0 a1 w _ c sd h
end Go.Proofs.Ytcanbidenhcohaa.Pure

/- Walks of Go functions, one Lean function and one contract for each, written by a program of this session out of the translation. -/
namespace Go.Proofs.Ytcanbidenhcohaa.reachOwn
open Go.ChangeShapes Go.WideShapes Go.ChangeAt Go.RowKit
open Go.ChangeMaps (open_string shut_string)
set_option linter.unusedVariables false
theorem own : ownKnob Try.prog.godebug = none := by kernel_rfl
set_option maxRecDepth 100000 in
theorem lifted (os : Os) (started : os.Started) (H : Type) (enc : TypeId × Value → H) :
    ReturnsInHanded {} Try.checked os 5 .any (Rows.reachOwnSpec.pre6 enc Try.prog Try.f5 Rows.reachOwnRow.domain false) (Rows.reachOwnSpec.post enc Try.prog Try.f5 false true false false) := by
  refine returnsInHanded_of_change_sized (C := Try.checked) own started (by kernel_rfl) Try.func5
    (ChangeSpec.witness6 (enc := enc) (C := Try.checked) false ⟨#[], #[.string ByteArray.empty, .int .i64 0], []⟩ 8 (by kernel_rfl) (by kernel_rfl) (by kernel_rfl) (by kernel_rfl)) ?_
  intro W base args ds gs before hval0 hW hcnd hsz0 _
  have hsz : (DataW.weightsEach Try.prog (Try.f5.params.toList ++ Rows.reachOwnSpec.plain.varTypes Try.prog) (ds ++ gs)).all (· ≤ reachBytes) = true := hsz0
  have hval : ∀ (j : Nat) t v, Try.f5.params[j]? = some t → args[j]? = some v → Value.okWide Try.prog W .any base t v := hval0
  have hW' := hW
  obtain ⟨p, q, hA0, hV, rfl, hfz, hnd⟩ := hW
  have hA : DataW.TrodAll enc Try.prog W 0 (fun _ => true) true Try.f5.params.toList args.toList ds p := hA0
  rw [Try.params5] at hA hval hsz
  obtain ⟨v0, vs0, d0, ds0, p0, q0, hargs, rfl, rfl, h0, r0⟩ := trodAll_cons hA
  obtain ⟨v1, vs1, d1, ds1, p1, q1, rfl, rfl, rfl, h1, r1⟩ := trodAll_cons r0
  obtain ⟨rfl, rfl, rfl⟩ := trodAll_nil r1
  obtain rfl : args = #[v0, v1] := by cases args; simp_all
  obtain ⟨rfl, rfl⟩ := trodVars_none hV
  obtain ⟨a0, rfl, rfl, rfl, y0⟩ := open_string Try.underlying9 (hval 0 9 v0 rfl rfl) h0
  have w0 : a0.size ≤ 140737488351232 := by
    have z := sized_string hsz (j := 0) (t := 9) rfl rfl
    rw [Array.length_toList] at z
    exact z
  obtain ⟨a1, rfl, rfl, rfl, w1⟩ := open_int Try.underlying3 (hval 1 3 v1 rfl rfl) h1
  clear hA0 hval0 hsz0 hsz
  refine (Pure.ReachOwn_walk a0 a1 W w0 w1).mono fun e W' ⟨he, bel⟩ => ?_
  subst he
  exact ⟨_, rfl, _, _, _, [], _, [], hW', trodAll_mk1 (shut_bool Try.underlying4 _), (trodAll_cons_mk (shut_string Try.underlying9 y0) (trodAll_cons_mk (shut_int Try.underlying3 w1) trodAll_mk0)), rfl, bel.frame _, fun h => by cases h⟩
theorem over : Rows.reachOwnRow.holds Try.pinned (OpenSpec.ofChange Rows.reachOwnSpec) :=
  OpenClaim.holds_of_wide 5 Try.f5 rfl rfl rfl rfl rfl rfl rfl ⟨rfl, rfl, rfl, rfl, rfl⟩ rfl rfl rfl rfl rfl (by kernel_rfl) Try.func5 (by kernel_rfl)
    (of_decide_eq_true (by kernel_rfl)) (by unfold Func.isWrapper; first | (rw [if_pos (by decide +kernel)]; kernel_rfl) | (rw [if_neg (by decide +kernel)]; exact ⟨rfl, rfl⟩))
    (fun os started H enc _ => lifted os started H enc)
theorem proved : Rows.ReachOwnSaid := over
end Go.Proofs.Ytcanbidenhcohaa.reachOwn
namespace Go.Proofs.Ytcanbidenhcohaa
/-- The row, under a short name, for the claim. -/
theorem reachOwn_holds : Rows.ReachOwnSaid := reachOwn.proved
end Go.Proofs.Ytcanbidenhcohaa
