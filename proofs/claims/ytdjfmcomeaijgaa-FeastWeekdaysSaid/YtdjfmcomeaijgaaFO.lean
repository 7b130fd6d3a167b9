/- The feasts of a year, as one list: what the program and the reference come to. -/
import Derived.Test.YtdjfmcomeaijgaaFN
namespace Go.Proofs.Ytdjfmcomeaijgaa
open Go Go.RowKit
set_option linter.unusedVariables false
set_option linter.unusedSimpArgs false

/-- A year's feasts: a kind and a day each; y is the New Year's day, L how long the year is. -/
def feasts (L y : Int) (ab : Bool) : List (Int × Int) :=
  if ab then [(1, y + 0), (1, y + 1), (2, y + 9), (3, y + 14), (3, y + 15), (4, y + 21), (4, y + 22), (5, y + (L - 163)), (5, y + (L - 162)), (6, y + (L - 157)), (6, y + (L - 156)), (7, y + (L - 113)), (7, y + (L - 112))]
  else [(1, y + 0), (1, y + 1), (2, y + 9), (3, y + 14), (4, y + 21), (5, y + (L - 163)), (6, y + (L - 157)), (7, y + (L - 113))]

theorem dayN_at {h : Int} (hy : Yr h) (k : Nat) : dayN h k = if k < 30 then ny h + (k : Int) % 30 else if k < 60 then ny h + (ylen h - 177) + (k : Int) % 30 else ny h + (ylen h - 118) + (k : Int) % 30 := by
  have e7 := hcum_7 hy
  have e9 := (hcum_9 hy).2.1
  unfold dayN hnum monK dayK
  split
  · have z : hcum h ((1 : Int).toNat - 1) = 0 := rfl
    rw [z]; omega
  · split
    · have z : hcum h ((8 : Int).toNat - 1) = hcum h 7 := rfl
      rw [z, e7]; omega
    · have z : hcum h ((10 : Int).toNat - 1) = hcum h 9 := rfl
      rw [z, e9]; omega

theorem fcells_list {h : Int} (hy : Yr h) (ab : Bool) : fcells h ab (List.range 90) = cellsF (feasts (ylen h) (ny h) ab) := by
  have d := dayN_at hy
  have i2 : ∀ {a b : Int}, a = b → Value.int .i64 a = Value.int .i64 b := fun h => by rw [h]
  cases ab
  · have e : fcells h false (List.range 90) = [.int .i64 1, .int .i64 (dayN h 0), .int .i64 1, .int .i64 (dayN h 1), .int .i64 2, .int .i64 (dayN h 9), .int .i64 3, .int .i64 (dayN h 14), .int .i64 4, .int .i64 (dayN h 21), .int .i64 5, .int .i64 (dayN h 44), .int .i64 6, .int .i64 (dayN h 50), .int .i64 7, .int .i64 (dayN h 65)] := by rfl
    rw [e, d, d, d, d, d, d, d, d]
    simp only [feasts, cellsF, List.flatMap_cons, List.flatMap_nil, List.append_nil, List.cons_append, List.nil_append]
    simp
    omega
  · have e : fcells h true (List.range 90) = [.int .i64 1, .int .i64 (dayN h 0), .int .i64 1, .int .i64 (dayN h 1), .int .i64 2, .int .i64 (dayN h 9), .int .i64 3, .int .i64 (dayN h 14), .int .i64 3, .int .i64 (dayN h 15), .int .i64 4, .int .i64 (dayN h 21), .int .i64 4, .int .i64 (dayN h 22), .int .i64 5, .int .i64 (dayN h 44), .int .i64 5, .int .i64 (dayN h 45), .int .i64 6, .int .i64 (dayN h 50), .int .i64 6, .int .i64 (dayN h 51), .int .i64 7, .int .i64 (dayN h 65), .int .i64 7, .int .i64 (dayN h 66)] := by rfl
    rw [e, d, d, d, d, d, d, d, d, d, d, d, d, d]
    simp only [feasts, cellsF, List.flatMap_cons, List.flatMap_nil, List.append_nil, List.cons_append, List.nil_append]
    simp
    omega

/-- What the reference's list holds behind i days. -/
def rcells (L y : Int) (ab : Bool) (i : Nat) : List Value := (List.range i).flatMap fun (j : Nat) => if offK L (j : Int) ab = 0 then [] else [.int .i64 (offK L (j : Int) ab), .int .i64 (y + (j : Int))]
theorem rcells_no {L y : Int} {ab : Bool} {i : Nat} (c : offK L (i : Int) ab = 0) : rcells L y ab (i + 1) = rcells L y ab i := by
  simp [rcells, List.range_succ, c]
theorem rcells_yes {L y : Int} {ab : Bool} {i : Nat} (c : offK L (i : Int) ab ≠ 0) : rcells L y ab (i + 1) = rcells L y ab i ++ [.int .i64 (offK L (i : Int) ab), .int .i64 (y + (i : Int))] := by
  simp [rcells, List.range_succ, c]
theorem rc353f (y : Int) : rcells 353 y false 280 = cellsF (feasts 353 y false) := by kernel_rfl
theorem rc353t (y : Int) : rcells 353 y true 280 = cellsF (feasts 353 y true) := by kernel_rfl
theorem rc354f (y : Int) : rcells 354 y false 280 = cellsF (feasts 354 y false) := by kernel_rfl
theorem rc354t (y : Int) : rcells 354 y true 280 = cellsF (feasts 354 y true) := by kernel_rfl
theorem rc355f (y : Int) : rcells 355 y false 280 = cellsF (feasts 355 y false) := by kernel_rfl
theorem rc355t (y : Int) : rcells 355 y true 280 = cellsF (feasts 355 y true) := by kernel_rfl
theorem rc383f (y : Int) : rcells 383 y false 280 = cellsF (feasts 383 y false) := by kernel_rfl
theorem rc383t (y : Int) : rcells 383 y true 280 = cellsF (feasts 383 y true) := by kernel_rfl
theorem rc384f (y : Int) : rcells 384 y false 280 = cellsF (feasts 384 y false) := by kernel_rfl
theorem rc384t (y : Int) : rcells 384 y true 280 = cellsF (feasts 384 y true) := by kernel_rfl
theorem rc385f (y : Int) : rcells 385 y false 280 = cellsF (feasts 385 y false) := by kernel_rfl
theorem rc385t (y : Int) : rcells 385 y true 280 = cellsF (feasts 385 y true) := by kernel_rfl
theorem rcells_list {h : Int} (hy : Yr h) (y : Int) (ab : Bool) : rcells (ylen h) y ab 280 = cellsF (feasts (ylen h) y ab) := by
  have c := len_cases h (by have := hy.1; omega) (by have := hy.2; omega)
  have c6 : ylen h = 353 ∨ ylen h = 354 ∨ ylen h = 355 ∨ ylen h = 383 ∨ ylen h = 384 ∨ ylen h = 385 := by omega
  clear c
  generalize ylen h = L at c6
  clear hy
  rcases c6 with e | e | e | e | e | e <;> subst e <;> cases ab
  · exact rc353f y
  · exact rc353t y
  · exact rc354f y
  · exact rc354t y
  · exact rc355f y
  · exact rc355t y
  · exact rc383f y
  · exact rc383t y
  · exact rc384f y
  · exact rc384t y
  · exact rc385f y
  · exact rc385t y

end Go.Proofs.Ytdjfmcomeaijgaa
