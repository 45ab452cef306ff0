/- Walks and plain laws that several statements lean on, joined: no statement of the seat is proved here. -/
import Derived.Test.YtafmapadkpjliaaGreatDoorB2

/- Plain law: the geometry of a board's 90 squares, by the kernel's own reckoning. -/
namespace Go.Proofs.YtafmapadkpjliaaGreatDoor.Sp
theorem ray_geo : ∀ n : Fin 90, ∀ w ∈ dirs, (∀ j : Fin 10, (rayN n.1 w)[j.1]? = none → j.1 = (rayN n.1 w).length → stepN n.1 (((j.1 : Nat) : Int) * w.1 + w.1) (((j.1 : Nat) : Int) * w.2 + w.2) = -1) ∧
    (rayN n.1 w).length ≤ 9 ∧ (∀ j : Fin 10, ∀ t ∈ (rayN n.1 w)[j.1]?, stepN n.1 (((j.1 : Nat) : Int) * w.1 + w.1) (((j.1 : Nat) : Int) * w.2 + w.2) = ((t : Nat) : Int) ∧ t < 90) := by decide +kernel
/-- A square on a line with another lies on one of the four ways, and what lies between is what the way meets before it. -/
theorem betw_ray : ∀ n t : Fin 90, (n.1 ≠ t.1 ∧ (n.1 / 9 = t.1 / 9 ∨ n.1 % 9 = t.1 % 9)) → ∃ w ∈ dirs, ∃ j : Fin 9, (rayN n.1 w)[j.1]? = some t.1 ∧ (betwL n.1 t.1 = (rayN n.1 w).take j.1 ∨ betwL n.1 t.1 = ((rayN n.1 w).take j.1).reverse) := by decide +kernel
theorem ray_betw : ∀ n : Fin 90, ∀ w ∈ dirs, ∀ j : Fin 9, ∀ t ∈ (rayN n.1 w)[j.1]?, n.1 ≠ t ∧ (n.1 / 9 = t / 9 ∨ n.1 % 9 = t % 9) ∧ (betwL n.1 t = (rayN n.1 w).take j.1 ∨ betwL n.1 t = ((rayN n.1 w).take j.1).reverse) := by decide +kernel

def kingL (n : Nat) : List Int := [stepN n 1 0, stepN n (-1) 0, stepN n 1 0, stepN n (-1) 0, stepN n 0 1, stepN n 0 1, stepN n 0 (-1), stepN n 0 (-1)]
def fourL (n : Nat) (d : Int) : List Int := [stepN n d d, stepN n (-d) d, stepN n d (-d), stepN n (-d) (-d)]
theorem king_geo : ∀ n t : Fin 90, (((t.1 : Nat) : Int) ∈ kingL n.1) ↔ away (n.1 % 9) (t.1 % 9) + away (n.1 / 9) (t.1 / 9) = 1 := by decide +kernel
theorem adv_geo : ∀ n t : Fin 90, (((t.1 : Nat) : Int) ∈ fourL n.1 1) ↔ (away (n.1 % 9) (t.1 % 9) = 1 ∧ away (n.1 / 9) (t.1 / 9) = 1) := by decide +kernel
theorem ele_geo : ∀ n t : Fin 90, (((t.1 : Nat) : Int) ∈ fourL n.1 2) ↔ (away (n.1 % 9) (t.1 % 9) = 2 ∧ away (n.1 / 9) (t.1 / 9) = 2) := by decide +kernel
theorem four_range : ∀ n : Fin 90, (∀ x ∈ kingL n.1, -1 ≤ x ∧ x < 90) ∧ (∀ x ∈ fourL n.1 1, -1 ≤ x ∧ x < 90) ∧ (∀ x ∈ fourL n.1 2, -1 ≤ x ∧ x < 90) := by decide +kernel
def horseL (n : Nat) (w : Int × Int) : List Int := [stepN n (2 * w.1 + w.2) (2 * w.2 + w.1), stepN n (2 * w.1 - w.2) (2 * w.2 - w.1)]
def horseP (a b : Nat) : Bool := (away (a % 9) (b % 9) == 1 && away (a / 9) (b / 9) == 2) || (away (a % 9) (b % 9) == 2 && away (a / 9) (b / 9) == 1)
theorem horse_geo : ∀ n t : Fin 90, (∀ w ∈ dirs, ((t.1 : Nat) : Int) ∈ horseL n.1 w → horseP n.1 t.1 = true ∧ stepN n.1 w.1 w.2 = ((legN n.1 t.1 : Nat) : Int)) ∧ (horseP n.1 t.1 = true → ∃ w ∈ dirs, ((t.1 : Nat) : Int) ∈ horseL n.1 w) := by decide +kernel
theorem horse_range : ∀ n : Fin 90, ∀ w ∈ dirs, (∀ x ∈ horseL n.1 w, -1 ≤ x ∧ x < 90) ∧ -1 ≤ stepN n.1 w.1 w.2 ∧ stepN n.1 w.1 w.2 < 90 := by decide +kernel
def pawnL (side : Int) (n : Nat) : List Int := stepN n 0 (1 - 2 * side) :: if overN n side then [stepN n 1 0, stepN n (-1) 0] else []
theorem pawn_geo : ∀ s : Fin 2, ∀ n t : Fin 90, (((t.1 : Nat) : Int) ∈ pawnL ((s.1 : Nat) : Int) n.1) ↔ pawnN ((s.1 : Nat) : Int) n.1 t.1 = true := by decide +kernel
theorem pawn_range : ∀ s : Fin 2, ∀ n : Fin 90, ∀ x ∈ pawnL ((s.1 : Nat) : Int) n.1, -1 ≤ x ∧ x < 90 := by decide +kernel
end Go.Proofs.YtafmapadkpjliaaGreatDoor.Sp
