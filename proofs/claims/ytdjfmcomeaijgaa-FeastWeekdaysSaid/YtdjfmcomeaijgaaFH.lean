/- The table of the feasts: no program in sight. -/
import Derived.Test.YtdjfmcomeaijgaaB0
namespace Go.Proofs.Ytdjfmcomeaijgaa
open Go.RowKit

/-- A date's feast, and whether it is one only abroad. -/
def holyV (m d : Int) : Int × Bool :=
  if m = 1 ∧ d = 1 then (1, false) else if m = 1 ∧ d = 2 then (1, false) else if m = 1 ∧ d = 10 then (2, false)
  else if m = 1 ∧ d = 15 then (3, false) else if m = 1 ∧ d = 16 then (3, true) else if m = 1 ∧ d = 22 then (4, false) else if m = 1 ∧ d = 23 then (4, true)
  else if m = 8 ∧ d = 15 then (5, false) else if m = 8 ∧ d = 16 then (5, true) else if m = 8 ∧ d = 21 then (6, false) else if m = 8 ∧ d = 22 then (6, true)
  else if m = 10 ∧ d = 6 then (7, false) else if m = 10 ∧ d = 7 then (7, true) else (0, false)
def kindV (m d : Int) (ab : Bool) : Int := if (ab || !(holyV m d).2) = true then (holyV m d).1 else 0

/-- The thirteen rows of the table: a month and a day, a kind and whether it is one only abroad. -/
def rows13 : List ((Int × Int) × (Int × Bool)) := [((1, 1), (1, false)), ((1, 2), (1, false)), ((1, 10), (2, false)), ((1, 15), (3, false)), ((1, 16), (3, true)), ((1, 22), (4, false)), ((1, 23), (4, true)), ((8, 15), (5, false)), ((8, 16), (5, true)), ((8, 21), (6, false)), ((8, 22), (6, true)), ((10, 6), (7, false)), ((10, 7), (7, true))]
def row13 (j : Nat) : (Int × Int) × (Int × Bool) := rows13.getD j ((0, 0), (0, false))
theorem thirteenN {j : Nat} (h : j < 13) : j = 0 ∨ j = 1 ∨ j = 2 ∨ j = 3 ∨ j = 4 ∨ j = 5 ∨ j = 6 ∨ j = 7 ∨ j = 8 ∨ j = 9 ∨ j = 10 ∨ j = 11 ∨ j = 12 := by omega
theorem row_apart {i j : Nat} (hi : i < 13) (hj : j < 13) (h : (row13 i).1 = (row13 j).1) : i = j := by
  rcases thirteenN hi with e | e | e | e | e | e | e | e | e | e | e | e | e <;> subst e <;> (rcases thirteenN hj with e | e | e | e | e | e | e | e | e | e | e | e | e <;> subst e <;> first | rfl | (exfalso; revert h; decide))
theorem row_val {j : Nat} (hj : j < 13) : holyV (row13 j).1.1 (row13 j).1.2 = (row13 j).2 := by
  rcases thirteenN hj with e | e | e | e | e | e | e | e | e | e | e | e | e <;> subst e <;> decide
theorem row_none {m d : Int} (h : ∀ j, j < 13 → (row13 j).1 ≠ (m, d)) : holyV m d = (0, false) := by
  have g : ∀ j, j < 13 → ¬ (m = (row13 j).1.1 ∧ d = (row13 j).1.2) := fun j hj c => h j hj (by rw [c.1, c.2])
  have g0 := g 0 (by omega); have g1 := g 1 (by omega); have g2 := g 2 (by omega); have g3 := g 3 (by omega); have g4 := g 4 (by omega)
  have g5 := g 5 (by omega); have g6 := g 6 (by omega); have g7 := g 7 (by omega); have g8 := g 8 (by omega); have g9 := g 9 (by omega)
  have g10 := g 10 (by omega); have g11 := g 11 (by omega); have g12 := g 12 (by omega)
  simp only [row13, rows13, List.getD_cons_zero, List.getD_cons_succ] at g0 g1 g2 g3 g4 g5 g6 g7 g8 g9 g10 g11 g12
  unfold holyV
  rw [if_neg g0, if_neg g1, if_neg g2, if_neg g3, if_neg g4, if_neg g5, if_neg g6, if_neg g7, if_neg g8, if_neg g9, if_neg g10, if_neg g11, if_neg g12]

end Go.Proofs.Ytdjfmcomeaijgaa
