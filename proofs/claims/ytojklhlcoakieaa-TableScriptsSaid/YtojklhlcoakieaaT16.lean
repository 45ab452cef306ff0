/- The rows of a script that is an argument. -/
import Derived.Test.YtojklhlcoakieaaT15
import Derived.Test.YtojklhlcoakieaaRow
namespace Go.Proofs.Ytojklhlcoakieaa.P
open Go.RowKit Go.Lib Go.ChangeShapes
theorem ops_of {W : World} {a : Option Addr} {len cap : Nat}
    (h : (a = none ∧ len = 0 ∧ cap = 0) ∨ ∃ ad, a = some ad ∧ len ≤ cap ∧ cap ≤ maxLen ∧ ∀ i, i < len → ∀ (j : Nat) (k : FK), [FK.int .i64, .int .u64, .int .i64, .int .i64, .int .i64, .int .i64, .int .i64, .int .i64, .int .i64][j]? = some k → ∃ c, W.cell? (ad.add (i * 9 + j)) = some c ∧ k.has c) :
    ∃ S : Nat → SOp, len = 0 ∨ ∃ g o, a = some ⟨g, o, none⟩ ∧ ∀ i, i < len → OpAt W g (o + i * 9) (S i) ∧ 0 ≤ (S i).e.key := by
  rcases h with ⟨_, rfl, _⟩ | ⟨ad, rfl, hl, hm, hx⟩
  · exact ⟨fun _ => ⟨0, zeroEnt, 0, 0⟩, .inl rfl⟩
  by_cases h0 : len = 0
  · exact ⟨fun _ => ⟨0, zeroEnt, 0, 0⟩, .inl h0⟩
  obtain ⟨c, hc, _⟩ := hx 0 (by omega) 0 _ rfl
  obtain ⟨g, o, rfl⟩ := add_spot _ _ _ hc
  have each : ∀ i, i < len → ∃ x : SOp, OpAt W g (o + i * 9) x ∧ 0 ≤ x.e.key := by
    intro i hi
    obtain ⟨c0, h0, n0, rfl, w0⟩ := hx i hi 0 _ rfl
    obtain ⟨c1, h1, n1, rfl, w1⟩ := hx i hi 1 _ rfl
    obtain ⟨c2, h2, n2, rfl, w2⟩ := hx i hi 2 _ rfl
    obtain ⟨c3, h3, n3, rfl, w3⟩ := hx i hi 3 _ rfl
    obtain ⟨c4, h4, n4, rfl, w4⟩ := hx i hi 4 _ rfl
    obtain ⟨c5, h5, n5, rfl, w5⟩ := hx i hi 5 _ rfl
    obtain ⟨c6, h6, n6, rfl, w6⟩ := hx i hi 6 _ rfl
    obtain ⟨c7, h7, n7, rfl, w7⟩ := hx i hi 7 _ rfl
    obtain ⟨c8, h8, n8, rfl, w8⟩ := hx i hi 8 _ rfl
    rw [add_at] at h0 h1 h2 h3 h4 h5 h6 h7 h8
    exact ⟨⟨n0, ⟨n1, n2, n3, n4, n5, n6⟩, n7, n8⟩, ⟨World.block_lt_of_cell? W _ h0, h0, h1, h2, h3, h4, h5, h6, h7, h8⟩, wf_u64 w1⟩
  refine ⟨fun i => if h : i < len then Classical.choose (each i h) else ⟨0, zeroEnt, 0, 0⟩, .inr ⟨g, o, rfl, fun i hi => ?_⟩⟩
  simp only [hi, dif_pos]
  exact Classical.choose_spec (each i hi)
end Go.Proofs.Ytojklhlcoakieaa.P
