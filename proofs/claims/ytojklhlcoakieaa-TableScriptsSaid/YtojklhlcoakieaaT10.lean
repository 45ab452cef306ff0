/- The reference's table: what lies in memory; plain laws of lists of entries. -/
import Derived.Test.YtojklhlcoakieaaT9
import Derived.Deep.AppendLies
namespace Go.Proofs.Ytojklhlcoakieaa.P
open Go.RowKit Go.Lib Go.Proofs.YtojklhlcoakieaaW.PrintWords Go.Proofs.YtojklhlcoakieaaW.PrintLast Go.Proofs.YtojklhlcoakieaaW.PrintMore
set_option linter.unusedVariables false
set_option linter.unusedSimpArgs false
def entC (e : Ent) : List Value := [.int .u64 e.key, .int .i64 e.depth, .int .i64 e.score, .int .i64 e.sure, .int .i64 e.frm, .int .i64 e.dest]
def flatE (L : List Ent) : List Value := L.flatMap entC
theorem flatE_len (L : List Ent) : (flatE L).length = L.length * 6 := by
  induction L with
  | nil => rfl
  | cons x r ih => simp only [flatE, List.flatMap_cons, List.length_append, List.length_cons] at *; simp [entC, ih]; omega
theorem flatE_get (L : List Ent) (i j : Nat) (hi : i < L.length) (hj : j < 6) : (flatE L)[i * 6 + j]? = (entC L[i])[j]? := by
  induction L generalizing i with
  | nil => simp at hi
  | cons x r ih =>
    have hl : (entC x).length = 6 := rfl
    cases i with
    | zero =>
      simp only [flatE, List.flatMap_cons]
      rw [List.getElem?_append_left (by rw [hl]; omega)]
      simp
    | succ i =>
      simp only [flatE, List.flatMap_cons]
      rw [List.getElem?_append_right (by rw [hl]; omega), hl, show (i + 1) * 6 + j - 6 = i * 6 + j by omega]
      exact ih i (by simpa using hi)
theorem flatE_append (L : List Ent) (x : Ent) : flatE (L ++ [x]) = flatE L ++ entC x := by simp [flatE]
theorem flatE_set (L : List Ent) (i : Nat) (x : Ent) (hi : i < L.length) :
    ((((((flatE L).set (i * 6) (.int .u64 x.key)).set (i * 6 + 1) (.int .i64 x.depth)).set (i * 6 + 2) (.int .i64 x.score)).set (i * 6 + 3) (.int .i64 x.sure)).set (i * 6 + 4) (.int .i64 x.frm)).set (i * 6 + 5) (.int .i64 x.dest) = flatE (L.set i x) := by
  apply List.ext_getElem?
  intro k
  simp only [List.getElem?_set]
  have hl := flatE_len L
  by_cases hk : k < L.length * 6
  · have e1 : k = k / 6 * 6 + k % 6 := by omega
    have hm : k % 6 < 6 := Nat.mod_lt _ (by omega)
    have h2 := flatE_get (L.set i x) (k / 6) (k % 6) (by simp; omega) hm
    have h3 := flatE_get L (k / 6) (k % 6) (by omega) hm
    rw [← e1] at h2 h3
    rw [h2, h3]
    simp only [List.length_set, hl]
    by_cases hki : k / 6 = i
    · have e2 : (L.set i x)[k / 6]'(by simp; omega) = x := by simp [List.getElem_set, hki]
      rw [e2]
      have hc : k % 6 = 0 ∨ k % 6 = 1 ∨ k % 6 = 2 ∨ k % 6 = 3 ∨ k % 6 = 4 ∨ k % 6 = 5 := by omega
      rcases hc with h | h | h | h | h | h
      · simp [show i * 6 = k by omega, show ¬ k + 1 = k by omega, show ¬ k + 2 = k by omega, show ¬ k + 3 = k by omega, show ¬ k + 4 = k by omega, show ¬ k + 5 = k by omega, h, entC, hk]
      · simp [show i * 6 = k - 1 by omega, show k - 1 + 1 = k by omega, show ¬ k - 1 + 2 = k by omega, show ¬ k - 1 + 3 = k by omega, show ¬ k - 1 + 4 = k by omega, show ¬ k - 1 + 5 = k by omega, h, entC, hk]
      · simp [show i * 6 = k - 2 by omega, show k - 2 + 2 = k by omega, show ¬ k - 2 + 3 = k by omega, show ¬ k - 2 + 4 = k by omega, show ¬ k - 2 + 5 = k by omega, h, entC, hk]
      · simp [show i * 6 = k - 3 by omega, show k - 3 + 3 = k by omega, show ¬ k - 3 + 4 = k by omega, show ¬ k - 3 + 5 = k by omega, h, entC, hk]
      · simp [show i * 6 = k - 4 by omega, show k - 4 + 4 = k by omega, show ¬ k - 4 + 5 = k by omega, h, entC, hk]
      · simp [show i * 6 = k - 5 by omega, show k - 5 + 5 = k by omega, h, entC, hk]
    · have e2 : (L.set i x)[k / 6]'(by simp; omega) = L[k / 6]'(by omega) := by rw [List.getElem_set_ne (fun h => hki h.symm)]
      rw [e2]
      rw [if_neg (by omega), if_neg (by omega), if_neg (by omega), if_neg (by omega), if_neg (by omega), if_neg (by omega)]
  · have hl2 : (flatE (L.set i x)).length = L.length * 6 := by rw [flatE_len, List.length_set]
    rw [List.getElem?_eq_none (l := flatE (L.set i x)) (by omega), List.getElem?_eq_none (l := flatE L) (by omega)]
    rw [if_neg (by omega), if_neg (by omega), if_neg (by omega), if_neg (by omega), if_neg (by omega), if_neg (by omega)]
/-- One cell of a row of one's own is written. -/
theorem own_put1 {W : World} {base g n cap size : Nat} {e : TypeId} {xs : List Value} (h : W.ownsRow base e size (.slice (some ⟨g, 0, none⟩) n cap) n xs) (k : Nat) (hk : k < xs.length) (v : Value) :
    (W.setCell ⟨g, k, none⟩ v).ownsRow base e size (.slice (some ⟨g, 0, none⟩) n cap) n (xs.set k v) := by
  obtain ⟨hl, ⟨h0, _⟩ | ⟨g', cap', cur, hv, hb, hg, hn, hc, hs, ht⟩⟩ := h
  · simp at h0
  · simp only [Value.slice.injEq, Option.some.injEq, Addr.mk.injEq, and_true, true_and] at hv
    obtain ⟨rfl, rfl⟩ := hv
    refine ⟨by simpa using hl, .inr ⟨g, cap, cur.setIfInBounds k v, rfl, hb, ?_, hn, hc, by simpa using hs, ?_⟩⟩
    · have hlt : g < W.heap.size := by
        rcases Nat.lt_or_ge g W.heap.size with h | h
        · exact h
        · rw [Array.getElem?_eq_none h] at hg; cases hg
      simp only [World.setCell, Array.getElem?_modify, if_true, hg, Option.map_some]
      simp
    · rw [← ht, Array.toList_setIfInBounds, List.take_set]
/-- The reference's table of n slots in block kb, its entries L. -/
structure RefAt (W : World) (kb n : Nat) (L : List Ent) : Prop where
  sz : W.cell? ⟨kb, 0, none⟩ = some (.int .i64 (n : Int))
  fz : W.frozen? ⟨kb, 1, none⟩ = false
  row : ∃ v, W.cell? ⟨kb, 1, none⟩ = some v ∧ W.ownsRow (kb + 1) 36 6 v L.length (flatE L)
  pos : 0 < n
  most : n ≤ 4096
theorem RefAt.cells {W : World} {kb n : Nat} {L : List Ent} (h : RefAt W kb n L) :
    ∃ A cap, W.cell? ⟨kb, 1, none⟩ = some (.slice A L.length cap) ∧ W.ownsRow (kb + 1) 36 6 (.slice A L.length cap) L.length (flatE L) ∧ (L = [] ∨ ∃ g, A = some ⟨g, 0, none⟩ ∧ kb < g ∧ ∀ i (hi : i < L.length), EntAt W g (i * 6) L[i]) := by
  obtain ⟨v, hv, ho⟩ := h.row
  have ho' := ho
  obtain ⟨hl, ⟨rfl, h0⟩ | ⟨g, cap, cur, rfl, hb, hg, hn, hc, hs, ht⟩⟩ := ho
  · have hL : L = [] := List.length_eq_zero_iff.1 h0
    subst hL
    exact ⟨none, 0, hv, ho', .inl rfl⟩
  · refine ⟨_, cap, hv, ho', .inr ⟨g, rfl, hb, ?_⟩⟩
    have hlt : g < W.heap.size := by
      rcases Nat.lt_or_ge g W.heap.size with h | h
      · exact h
      · rw [Array.getElem?_eq_none h] at hg; cases hg
    have c : ∀ i j, i < L.length → j < 6 → W.cell? ⟨g, i * 6 + j, none⟩ = (flatE L)[i * 6 + j]? := by
      intro i j hi hj
      rw [← ht, List.getElem?_take, if_pos (by omega)]
      simp only [World.cell?, hg]
      simp
    intro i hi
    have c' : ∀ j (hj : j < 6), W.cell? ⟨g, i * 6 + j, none⟩ = (entC L[i])[j]? := fun j hj => (c i j hi hj).trans (flatE_get L i j hi hj)
    exact ⟨hlt, c' 0 (by omega), c' 1 (by omega), c' 2 (by omega), c' 3 (by omega), c' 4 (by omega), c' 5 (by omega)⟩
end Go.Proofs.Ytojklhlcoakieaa.P
