/- Plain law: the table and the reference's list tell the same. -/
import Derived.Test.YtojklhlcoakieaaT13
namespace Go.Proofs.Ytojklhlcoakieaa.P
set_option linter.unusedVariables false
/-- The first entry of a slot. -/
def atS (L : List Ent) (n i : Nat) : Option Nat := L.findIdx? (fun e => slotN e.key n == i)
theorem atS_map (L : List Ent) (n i : Nat) : atS L n i = (L.map (fun e => slotN e.key n)).findIdx? (· == i) := by
  unfold atS; rw [List.findIdx?_map]; rfl
structure Rel (T : Nat → Option Ent) (n c : Nat) (L : List Ent) : Prop where
  at_ : ∀ i, i < n → T i = (atS L n i).map (L.getD · zeroEnt)
  cnt : c = L.length
  ok : ∀ e ∈ L, 0 ≤ e.sure ∧ e.sure ≤ 2 ∧ 0 ≤ e.key
theorem Rel.nil (n : Nat) : Rel (fun _ => none) n 0 [] := ⟨fun _ _ => rfl, rfl, by simp⟩
theorem getD_mem {L : List Ent} {j : Nat} (h : j < L.length) : L.getD j zeroEnt ∈ L := by
  rw [List.getD_eq_getElem?_getD, List.getElem?_eq_getElem h]; exact List.getElem_mem h
theorem Rel.get {T : Nat → Option Ent} {n c : Nat} {L : List Ent} (h : Rel T n c L) (hn : 0 < n) (key : Int) (hk : 0 ≤ key) : getF T n key = rgetF L n key := by
  unfold getF rgetF
  rw [h.at_ _ (slotN_lt hk hn)]
  show _ = match atS L n (slotN key n) with | none => _ | some i => _
  cases atS L n (slotN key n) <;> rfl
theorem Rel.use {T : Nat → Option Ent} {n c : Nat} {L : List Ent} (h : Rel T n c L) (hn : 0 < n) (key : Int) (hk : 0 ≤ key) (depth low high : Int) : useF (getF T n key) depth low high = ruseF (rgetF L n key) depth low high := by
  rw [h.get hn key hk]
  cases hr : (rgetF L n key).2 with
  | false => unfold useF ruseF; rw [hr]; simp
  | true =>
    have hm : (rgetF L n key).1 ∈ L := by
      unfold rgetF at hr ⊢
      cases hq : atI L n key with
      | none => rw [hq] at hr; simp at hr
      | some i =>
        rw [hq] at hr
        have hlt := atI_lt hq
        by_cases hx : ((L.getD i zeroEnt).key == key) = true
        · simp only [hx, if_true]; exact getD_mem hlt
        · simp only [hx] at hr; simp at hr
    obtain ⟨h0, h2, _⟩ := h.ok _ hm
    generalize rgetF L n key = r at hr hm h0 h2
    obtain ⟨e, b⟩ := r
    dsimp only at hr h0 h2
    subst hr
    unfold useF ruseF
    by_cases hd : e.depth < depth
    · simp [hd]
    · have hc : e.sure = 0 ∨ e.sure = 1 ∨ e.sure = 2 := by omega
      rcases hc with h | h | h <;> simp [hd, h]
theorem Rel.put {T : Nat → Option Ent} {n c : Nat} {L : List Ent} (h : Rel T n c L) (hn : 0 < n) (e : Ent) (hk : 0 ≤ e.key) :
    (putF T n c e).1 = (rputF L n e).1 ∧ Rel (putF T n c e).2.1 n (putF T n c e).2.2 (rputF L n e).2 := by
  unfold putF rputF
  cases hs : (decide (e.sure < 0) || decide (2 < e.sure)) with
  | true => exact ⟨rfl, h⟩
  | false =>
    have hs0 : 0 ≤ e.sure ∧ e.sure ≤ 2 := by simp at hs; omega
    simp only [Bool.false_eq_true, if_false]
    rw [h.at_ _ (slotN_lt hk hn)]
    show _ ∧ _
    cases hq : atS L n (slotN e.key n) with
    | none =>
      have hq' : atI L n e.key = none := hq
      simp only [Option.map_none, hq']
      refine ⟨trivial, ⟨fun i hi => ?_, by simp [h.cnt], ?_⟩⟩
      · unfold putT atS
        rw [List.findIdx?_append]
        by_cases hi2 : i = slotN e.key n
        · subst hi2
          have : L.findIdx? (fun x => slotN x.key n == slotN e.key n) = none := hq
          simp [this, List.findIdx?_cons]
        · simp only [hi2, if_false]
          rw [h.at_ i hi]
          unfold atS
          have hne : (slotN e.key n == i) = false := by simp; omega
          cases hq2 : L.findIdx? (fun e => slotN e.key n == i) with
          | none => simp [List.findIdx?_cons, hne]
          | some j =>
            have hj : j < L.length := by
              rw [List.findIdx?_eq_some_iff_getElem] at hq2; exact hq2.1
            simp [List.getElem?_append_left hj]
      · intro x hx
        rw [List.mem_append] at hx
        rcases hx with hx | hx
        · exact h.ok x hx
        · simp at hx; subst hx; exact ⟨hs0.1, hs0.2, hk⟩
    | some j =>
      have hq' : atI L n e.key = some j := hq
      have hj : j < L.length := atI_lt hq'
      simp only [Option.map_some, hq']
      cases hc : (!((L.getD j zeroEnt).key == e.key) && decide (e.depth < (L.getD j zeroEnt).depth)) with
      | true => exact ⟨by simp, by simpa using h⟩
      | false =>
        simp only [Bool.false_eq_true, if_false]
        refine ⟨trivial, ⟨fun i hi => ?_, by simp [h.cnt], ?_⟩⟩
        · have hsl : slotN L[j].key n = slotN e.key n := by
            have hq2 : L.findIdx? (fun x => slotN x.key n == slotN e.key n) = some j := hq
            rw [List.findIdx?_eq_some_iff_getElem] at hq2
            simpa using hq2.2.1
          have hm : (L.set j e).map (fun x => slotN x.key n) = L.map (fun x => slotN x.key n) := by
            rw [List.map_set, ← hsl]
            apply List.ext_getElem
            · simp
            · intro k h1 h2
              by_cases hkj : j = k
              · subst hkj; simp
              · simp [List.getElem_set_ne hkj]
          rw [atS_map, hm, ← atS_map]
          unfold putT
          by_cases hi2 : i = slotN e.key n
          · subst hi2
            rw [hq]
            simp [hj]
          · simp only [hi2, if_false]
            rw [h.at_ i hi]
            cases hq2 : atS L n i with
            | none => rfl
            | some k =>
              have hkj : j ≠ k := by
                intro hh
                subst hh
                unfold atS at hq2
                rw [List.findIdx?_eq_some_iff_getElem] at hq2
                have := hq2.2.1
                simp at this
                omega
              simp [List.getElem?_set_ne hkj]
        · intro x hx
          rcases List.mem_or_eq_of_mem_set hx with hx | hx
          · exact h.ok x hx
          · subst hx; exact ⟨hs0.1, hs0.2, hk⟩
theorem rput_len (L : List Ent) (n : Nat) (e : Ent) : (rputF L n e).2.length ≤ L.length + 1 := by
  unfold rputF
  split
  · simp
  · split
    · simp
    · split <;> simp
end Go.Proofs.Ytojklhlcoakieaa.P
