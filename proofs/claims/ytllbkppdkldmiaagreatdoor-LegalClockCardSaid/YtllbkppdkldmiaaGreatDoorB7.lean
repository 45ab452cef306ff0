/- Walks and plain laws that several statements lean on, joined: no statement of the seat is proved here. -/
import Derived.WalkKit
import Derived.ProofKit
import Derived.Deep.Slices
import Derived.WideShapes
import Derived.ChangeArms
import Derived.DataReads

/- Flat types: what a value, and a slice's elements, of structs of numbers, bools and texts hold. No program in sight. -/
namespace Go.Proofs.YtllbkppdkldmiaaGreatDoor.P
open Go Go.ChangeShapes Go.WideShapes
/-- The kind of one cell. -/
inductive FK where
  | int (k : IntKind)
  | bool
  | str
def FK.has : FK → Value → Prop
  | .int k, c => ∃ n, c = .int k n ∧ (Lit.int k n).wf = true
  | .bool, c => ∃ b, c = .bool b
  | .str, c => ∃ s : ByteArray, c = .string s ∧ s.size ≤ maxLen
/-- The kinds of a struct's cells, given those of its fields. -/
def flatFs (P : Program) (g : TypeId → Option (List FK)) : List Field → Nat → Option (List FK)
  | [], _ => some []
  | f :: r, off => (g f.type).bind fun a => if f.offset = off ∧ P.cellsOf f.type = a.length then (flatFs P g r (off + a.length)).map (a ++ ·) else none
def flatT (P : Program) : Nat → TypeId → Option (List FK)
  | 0, _ => none
  | d + 1, t => match P.underlying t with
    | some .bool => some [.bool]
    | some (.int k) => some [.int k]
    | some .string => some [.str]
    | some (.struct fs) => (flatFs P (flatT P d) fs.toList 0).bind fun ks => if P.cellsOf t = ks.length then some ks else none
    | _ => none
section
variable {H : Type} {enc : TypeId × Value → H} {P : Program} {w : World} {base : Nat} {spare : Nat → Bool} {held : Bool}
theorem flatFs_cells {g : TypeId → Option (List FK)} {n : Nat} {cs : List Value}
    (ih : ∀ t ks, g t = some ks → ∀ cs x, DataW.trod enc P w base spare held n t cs = some x → cs.length = ks.length ∧ ∀ (i : Nat) (k : FK) (c : Value), ks[i]? = some k → cs[i]? = some c → k.has c) :
    ∀ (l : List Field) (off : Nat) (ks : List FK), flatFs P g l off = some ks → (∀ f ∈ l, ∃ y, DataW.trod enc P w base spare held n f.type ((cs.drop f.offset).take (P.cellsOf f.type)) = some y) →
      ∀ (i : Nat) (k : FK) (c : Value), ks[i]? = some k → cs[off + i]? = some c → k.has c
  | [], off, ks, h, _, i, k, c, hk, _ => by
    simp only [flatFs, Option.some.injEq] at h
    subst h
    simp at hk
  | f :: r, off, ks, h, hy, i, k, c, hk, hc => by
    simp only [flatFs, Option.bind_eq_some_iff] at h
    obtain ⟨a, ha, h⟩ := h
    split at h
    · rename_i hh
      obtain ⟨h1, h2⟩ := hh
      simp only [Option.map_eq_some_iff] at h
      obtain ⟨b, hb, rfl⟩ := h
      obtain ⟨y, hy0⟩ := hy f (by simp)
      obtain ⟨hl, hh⟩ := ih _ _ ha _ _ hy0
      by_cases hi : i < a.length
      · rw [List.getElem?_append_left hi] at hk
        refine hh i k c hk ?_
        rw [List.getElem?_take, List.getElem?_drop, h1, h2, if_pos hi]
        exact hc
      · rw [List.getElem?_append_right (by omega)] at hk
        refine flatFs_cells ih r (off + a.length) b hb (fun f hf => hy f (by simp [hf])) (i - a.length) k c hk ?_
        rw [show off + a.length + (i - a.length) = off + i by omega]
        exact hc
    · cases h
theorem flat_cells : ∀ (d : Nat) (t : TypeId) (ks : List FK), flatT P d t = some ks → ∀ (n : Nat) (cs : List Value) (x : DataW H × List MemPlace), DataW.trod enc P w base spare held n t cs = some x →
    cs.length = ks.length ∧ ∀ (i : Nat) (k : FK) (c : Value), ks[i]? = some k → cs[i]? = some c → k.has c
  | 0, _, _, h => by simp [flatT] at h
  | d + 1, t, ks, h => by
    intro n cs x hx
    unfold flatT at h
    split at h
    · rename_i ht
      obtain rfl := Option.some.inj h
      obtain ⟨b, rfl, rfl⟩ := DataW.trod_bool ht hx
      refine ⟨rfl, fun i k c hk hc => ?_⟩
      match i with
      | 0 => simp at hk hc; subst hk hc; exact ⟨b, rfl⟩
      | i + 1 => simp at hk
    · rename_i k ht
      obtain rfl := Option.some.inj h
      obtain ⟨m, rfl, rfl, hw⟩ := DataW.trod_int ht hx
      refine ⟨rfl, fun i k c hk hc => ?_⟩
      match i with
      | 0 => simp at hk hc; subst hk hc; exact ⟨m, rfl, hw⟩
      | i + 1 => simp at hk
    · rename_i ht
      obtain rfl := Option.some.inj h
      obtain ⟨s, rfl, rfl, hs⟩ := DataW.trod_string ht hx
      refine ⟨rfl, fun i k c hk hc => ?_⟩
      match i with
      | 0 => simp at hk hc; subst hk hc; exact ⟨s, rfl, hs⟩
      | i + 1 => simp at hk
    · rename_i fs ht
      simp only [Option.bind_eq_some_iff] at h
      obtain ⟨ks', hks, h⟩ := h
      split at h
      · rename_i hsz
        obtain rfl := Option.some.inj h
        obtain ⟨xs, m, rfl, rfl, hlen, hxl, hf⟩ := DataW.trod_struct ht hx
        refine ⟨hlen.trans hsz, ?_⟩
        have := flatFs_cells (enc := enc) (w := w) (base := base) (spare := spare) (held := held) (n := m) (cs := cs) (fun t ks hg => flat_cells d t ks hg m) fs.toList 0 ks' hks (by
          intro f hfm
          obtain ⟨i, hi⟩ := List.getElem?_of_mem hfm
          have hfi : fs[i]? = some f := by simpa using hi
          have h1 := hf i f hfi
          have hlt : i < xs.length := by
            rw [hxl]
            rcases Nat.lt_or_ge i fs.size with h | h
            · exact h
            · simp [Array.getElem?_eq_none h] at hfi
          exact ⟨xs[i], h1.trans (List.getElem?_eq_getElem hlt)⟩)
        intro i k c hk hc
        exact this i k c hk (by simpa using hc)
      · cases h
    · cases h
/-- A slice of flat elements: its cells. -/
theorem flat_slice {t e : TypeId} {d : Nat} {ks : List FK} {n : Nat} {a : Option Addr} {len cap : Nat} {x : DataW H × List MemPlace} (ht : P.underlying t = some (.slice e)) (he : flatT P d e = some ks) (hc : P.cellsOf e = ks.length)
    (h : DataW.trod enc P w base spare held n t [.slice a len cap] = some x) :
    (a = none ∧ len = 0 ∧ cap = 0) ∨ ∃ ad, a = some ad ∧ len ≤ cap ∧ cap ≤ maxLen ∧ ∀ i, i < len → ∀ (j : Nat) (k : FK), ks[j]? = some k → ∃ c, w.cell? (ad.add (i * ks.length + j)) = some c ∧ k.has c := by
  rcases Deep.open_slice ht h with ⟨h0, _⟩ | ⟨ad, len', cap', m, n', D, Pl, h0, hb, hl, hm, hmm, _, hx⟩
  · simp at h0; exact .inl h0
  · simp only [List.cons.injEq, Value.slice.injEq, and_true] at h0
    obtain ⟨rfl, rfl, rfl⟩ := h0
    refine .inr ⟨ad, rfl, hl, hm, fun i hi j k hj => ?_⟩
    have hlm : len ≤ m := by rw [hmm]; split <;> omega
    obtain ⟨cs, h1, h2⟩ := hx i (by omega)
    obtain ⟨_, hlen, hcell⟩ := World.cells?_some h1
    obtain ⟨hcl, hch⟩ := flat_cells d e ks he _ _ _ h2
    have hjk : j < ks.length := by
      rcases Nat.lt_or_ge j ks.length with h | h
      · exact h
      · simp [List.getElem?_eq_none h] at hj
    have hjc : j < cs.length := by omega
    have := hcell j (by omega)
    rw [Deep.add_add, hc, List.getElem?_eq_getElem hjc] at this
    exact ⟨_, this, hch j k _ hj (List.getElem?_eq_getElem hjc)⟩
end
theorem list_cons {α : Type} {l : List α} {n : Nat} (h : l.length = n + 1) : ∃ x r, l = x :: r ∧ r.length = n := by
  cases l with
  | nil => simp at h
  | cons x r => exact ⟨x, r, rfl, by simpa using h⟩
theorem list_nil {α : Type} {l : List α} (h : l.length = 0) : l = [] := List.length_eq_zero_iff.1 h
theorem wf_u64 {n : Int} (h : (Lit.int .u64 n).wf = true) : 0 ≤ n := by
  simp only [Lit.wf, Bool.and_eq_true, decide_eq_true_eq] at h
  have h1 := h.1
  simp [IntKind.min, IntKind.signed] at h1
  exact h1
theorem wf_i64 {n : Int} (h : (Lit.int .i64 n).wf = true) : -9223372036854775808 ≤ n ∧ n ≤ 9223372036854775807 := by
  simp only [Lit.wf, Bool.and_eq_true, decide_eq_true_eq] at h
  obtain ⟨h1, h2⟩ := h
  simp [IntKind.min, IntKind.max, IntKind.signed, IntKind.bits] at h1 h2
  exact ⟨h1, h2⟩
theorem wf_u8 {n : Int} (h : (Lit.int .u8 n).wf = true) : 0 ≤ n ∧ n ≤ 255 := by
  simp only [Lit.wf, Bool.and_eq_true, decide_eq_true_eq] at h
  obtain ⟨h1, h2⟩ := h
  simp [IntKind.min, IntKind.max, IntKind.signed, IntKind.bits] at h1 h2
  exact ⟨h1, h2⟩
end Go.Proofs.YtllbkppdkldmiaaGreatDoor.P
