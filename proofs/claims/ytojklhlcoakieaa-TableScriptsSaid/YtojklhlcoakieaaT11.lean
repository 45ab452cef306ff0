/- Walks of the reference's table. -/
import Derived.Test.YtojklhlcoakieaaT10
import Derived.Deep.LoopGhost
namespace Go.Proofs.Ytojklhlcoakieaa.P
open Go.RowKit Go.Lib Go.Proofs.YtojklhlcoakieaaW.PrintWords Go.Proofs.YtojklhlcoakieaaW.PrintLast Go.Proofs.YtojklhlcoakieaaW.PrintMore
set_option linter.unusedVariables false
set_option linter.unusedSimpArgs false
theorem rslot_walk (w : World) (kb n : Nat) (key : Int) (h0 : w.cell? ⟨kb, 0, none⟩ = some (.int .i64 (n : Int))) (hn : 0 < n) (hn2 : n ≤ 4096) (hk : 0 ≤ key) :
  Calls Try.prog 20 #[.pointer (some ⟨kb, 0, none⟩), .int .u64 key] w fun e w' => e = .returned (.int .u64 (slotN key n : Int)) ∧ w' = w := by
  have hu : IntKind.u64.wrap (n : Int) = (n : Int) := by unfold IntKind.wrap; simp [IntKind.signed, IntKind.bits]; omega
  have hz : ((n : Int) == 0) = false := beq_eq_false_iff_ne.2 (by omega)
  have hz1 : ((n : Int) = 0) = False := eq_false (by omega)
  have hz2 : (n = 0) = False := eq_false (by omega)
  have h1 := Int.tmod_lt_of_pos key (b := (n : Int)) (by omega)
  have h2 := Int.tmod_nonneg (n : Int) hk
  have hr : IntKind.u64.wrap (key.tmod n) = key.tmod n := by
    unfold IntKind.wrap; simp [IntKind.signed, IntKind.bits]; omega
  have hs : ((slotN key n : Nat) : Int) = key % n := by unfold slotN; rw [← Int.tmod_eq_emod_of_nonneg hk]; omega
  have HS := Aside0.mk hs
  clear hs h1 h2
  go_enter Try.func20, Try.ntmps20
  go_wp2_with fail
  go_ret
  exact ⟨by rw [HS.out]; rfl, rfl⟩
/-- The place of the entry of a key's slot. -/
def atI (L : List Ent) (n : Nat) (key : Int) : Option Nat := L.findIdx? (fun e => slotN e.key n == slotN key n)
def atV (L : List Ent) (n : Nat) (key : Int) : Int := match atI L n key with | some i => i | none => -1
theorem atI_some {L : List Ent} {n : Nat} {key : Int} {i : Nat} (hi : i < L.length) (h : slotN L[i].key n = slotN key n) (hb : ∀ j (hj : j < i), slotN (L[j]'(by omega)).key n ≠ slotN key n) : atI L n key = some i := by
  unfold atI
  rw [List.findIdx?_eq_some_iff_getElem]
  exact ⟨hi, by simpa using h, fun j hj => by simpa using hb j hj⟩
theorem atI_none {L : List Ent} {n : Nat} {key : Int} (hb : ∀ j (hj : j < L.length), slotN L[j].key n ≠ slotN key n) : atI L n key = none := by
  unfold atI
  rw [List.findIdx?_eq_none_iff]
  intro x hx
  obtain ⟨j, hj, rfl⟩ := List.getElem_of_mem hx
  simpa using hb j hj
set_option maxRecDepth 100000 in
theorem at_walk (w : World) (kb n : Nat) (L : List Ent) (key : Int) (h : RefAt w kb n L) (hk : 0 ≤ key) (hp : ∀ e ∈ L, 0 ≤ e.key) (hl : L.length ≤ 60) :
  Calls Try.prog 19 #[.pointer (some ⟨kb, 0, none⟩), .int .u64 key] w fun e w' => e = .returned (.int .i64 (atV L n key)) ∧ w' = w := by
  obtain ⟨A, cap, hc, _, hx⟩ := h.cells
  have hsl : ∀ k, 0 ≤ k → Calls Try.prog 20 #[.pointer (some ⟨kb, 0, none⟩), .int .u64 k] w fun e w' => e = .returned (.int .u64 (slotN k n : Int)) ∧ w' = w := fun k h0 => rslot_walk w kb n k h.sz h.pos h.most h0
  have HSL := Aside0.mk hsl
  have HX := Aside0.mk hx
  have HP := Aside0.mk hp
  have HK := Aside0.mk hk
  have HL := Aside0.mk hl
  clear hsl hx h hp hk hl
  go_enter Try.func19, Try.ntmps19
  go_wp2_with fail
  go_loopg [5] L.length (fun gg s5 wr => ∃ i : Nat, s5 = .int .i64 i ∧ i + gg = L.length ∧ wr = w ∧ Aside0 (∀ j (hj : j < L.length), j < i → slotN L[j].key n ≠ slotN key n))
  case atStart => exact ⟨0, rfl, by omega, rfl, ⟨fun j _ hj => by omega⟩⟩
  case round =>
    obtain ⟨i, rfl, hig, rfl, HI⟩ := hrel
    have HG := Aside0.mk hig
    clear hig
    by_cases hlt : i < L.length
    · obtain ⟨g, rfl, _, hE⟩ := HX.out.resolve_left (fun h => by rw [h] at hlt; simp at hlt)
      obtain ⟨e0, e1, _⟩ := hE i hlt
      have b1 : decide ((i : Int) < (L.length : Int)) = true := decide_eq_true (by omega)
      have b2 : 0 ≤ (i : Int) := by omega
      have b3 : (i : Int) < (L.length : Int) := by omega
      have b4 : (i : Int) ≤ 60 := by have := HL.out; omega
      have hk1 := HP.out L[i] (List.getElem_mem hlt)
      have HK1 := Aside0.mk hk1
      clear hE hk1
      cases hq : (slotN L[i].key n == slotN key n)
      all_goals
        have hq2 : (((slotN L[i].key n : Nat) : Int) == ((slotN key n : Nat) : Int)) = (slotN L[i].key n == slotN key n) := by
          rw [Bool.eq_iff_iff, beq_iff_eq, beq_iff_eq]; omega
        rw [hq] at hq2
        have HQ := Aside0.mk hq
        clear hq
        go_wp2_with fail
        refine (HSL.out _ HK1.out).mono ?_
        rintro y w1 ⟨rfl, rfl⟩
        go_wp2_with fail
        refine (HSL.out _ HK.out).mono ?_
        rintro y w2 ⟨rfl, rfl⟩
        go_wp2_with fail
      · go_roundg (L.length - (i + 1))
        case measure => have := HG.out; omega
        case rel =>
          have := HG.out; have := HL.out
          exact ⟨i + 1, by go_num, by omega, rfl, ⟨fun j hj hji => by
            by_cases h : j = i
            · subst h; simpa using HQ.out
            · exact HI.out j hj (by omega)⟩⟩
      · go_ret
        refine ⟨?_, rfl⟩
        have : atI L n key = some i := atI_some hlt (by simpa using HQ.out) (fun j hj => HI.out j (by omega) hj)
        rw [show atV L n key = i by unfold atV; rw [this]]
        rfl
    · have b1 : decide ((i : Int) < (L.length : Int)) = false := decide_eq_false (by omega)
      go_wp2_with fail
      go_ret
      have : atI L n key = none := atI_none (fun j hj => HI.out j hj (by have := HG.out; omega))
      exact ⟨by rw [show atV L n key = -1 by unfold atV; rw [this]]; rfl, rfl⟩
end Go.Proofs.Ytojklhlcoakieaa.P
