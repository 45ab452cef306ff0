/- The entries of a slice that is an argument. -/
import Derived.Test.YtojklhlcoakieaaT8
import Derived.Test.YtojklhlcoakieaaRow
namespace Go.Proofs.Ytojklhlcoakieaa.P
open Go.RowKit Go.Lib Go.ChangeShapes
theorem add_spot (ad : Addr) (W : World) (v : Value) (h : W.cell? (ad.add 0) = some v) : ∃ g o, ad = ⟨g, o, none⟩ := by
  obtain ⟨g, o, s⟩ := ad
  cases s with
  | none => exact ⟨g, o, rfl⟩
  | some x =>
    exfalso
    simp only [World.cell?, Addr.add, if_true] at h
    split at h <;> simp at h
theorem add_at (g o k : Nat) : (⟨g, o, none⟩ : Addr).add k = ⟨g, o + k, none⟩ := by unfold Addr.add; split <;> simp_all
theorem ents_of {W : World} {a : Option Addr} {len cap : Nat}
    (h : (a = none ∧ len = 0 ∧ cap = 0) ∨ ∃ ad, a = some ad ∧ len ≤ cap ∧ cap ≤ maxLen ∧ ∀ i, i < len → ∀ (j : Nat) (k : FK), [FK.int .u64, .int .i64, .int .i64, .int .i64, .int .i64, .int .i64][j]? = some k → ∃ c, W.cell? (ad.add (i * 6 + j)) = some c ∧ k.has c) :
    ∃ S : Nat → Ent, len ≤ 9223372036854775807 ∧ (len = 0 ∨ ∃ g o, a = some ⟨g, o, none⟩ ∧ ∀ i, i < len → EntAt W g (o + i * 6) (S i) ∧ 0 ≤ (S i).key) := by
  rcases h with ⟨_, rfl, _⟩ | ⟨ad, rfl, hl, hm, hx⟩
  · exact ⟨fun _ => zeroEnt, by omega, .inl rfl⟩
  have hlen : len ≤ 9223372036854775807 := by unfold maxLen at hm; omega
  by_cases h0 : len = 0
  · exact ⟨fun _ => zeroEnt, hlen, .inl h0⟩
  obtain ⟨c, hc, _⟩ := hx 0 (by omega) 0 _ rfl
  obtain ⟨g, o, rfl⟩ := add_spot _ _ _ hc
  have each : ∀ i, i < len → ∃ e : Ent, EntAt W g (o + i * 6) e ∧ 0 ≤ e.key := by
    intro i hi
    obtain ⟨c0, h0, n0, rfl, w0⟩ := hx i hi 0 _ rfl
    obtain ⟨c1, h1, n1, rfl, w1⟩ := hx i hi 1 _ rfl
    obtain ⟨c2, h2, n2, rfl, w2⟩ := hx i hi 2 _ rfl
    obtain ⟨c3, h3, n3, rfl, w3⟩ := hx i hi 3 _ rfl
    obtain ⟨c4, h4, n4, rfl, w4⟩ := hx i hi 4 _ rfl
    obtain ⟨c5, h5, n5, rfl, w5⟩ := hx i hi 5 _ rfl
    rw [add_at] at h0 h1 h2 h3 h4 h5
    exact ⟨⟨n0, n1, n2, n3, n4, n5⟩, ⟨World.block_lt_of_cell? W _ h0, h0, h1, h2, h3, h4, h5⟩, wf_u64 w0⟩
  refine ⟨fun i => if h : i < len then Classical.choose (each i h) else zeroEnt, hlen, .inr ⟨g, o, rfl, fun i hi => ?_⟩⟩
  simp only [hi, dif_pos]
  exact Classical.choose_spec (each i hi)
end Go.Proofs.Ytojklhlcoakieaa.P
