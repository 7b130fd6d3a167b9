/- The minutes of the sunsets, as plain numbers: no program in sight. -/
import Derived.Test.YtdjfmcomeaijgaaDoorG2
namespace Go.Proofs.YtdjfmcomeaijgaaDoor
open Go.RowKit

/-- A table of twelve minutes. -/
def sunArr (f : Nat → Int) : Array Value := #[.int .i64 (f 0), .int .i64 (f 1), .int .i64 (f 2), .int .i64 (f 3), .int .i64 (f 4), .int .i64 (f 5), .int .i64 (f 6), .int .i64 (f 7), .int .i64 (f 8), .int .i64 (f 9), .int .i64 (f 10), .int .i64 (f 11)]
theorem twelve {i : Nat} (h : i < 12) : i = 0 ∨ i = 1 ∨ i = 2 ∨ i = 3 ∨ i = 4 ∨ i = 5 ∨ i = 6 ∨ i = 7 ∨ i = 8 ∨ i = 9 ∨ i = 10 ∨ i = 11 := by omega
theorem sunArr_at (f : Nat → Int) {i : Nat} (h : i < 12) : (sunArr f)[i]? = some (.int .i64 (f i)) := by
  rcases twelve h with e | e | e | e | e | e | e | e | e | e | e | e <;> subst e <;> rfl
def SunIn (f : Nat → Int) : Prop := ∀ i, i < 12 → 900 ≤ f i ∧ f i ≤ 1320
def SunBy (f : Nat → Int) : Prop := ∀ i, i < 12 → f ((i + 1) % 12) - f i ≤ 120 ∧ -120 ≤ f ((i + 1) % 12) - f i
instance (f : Nat → Int) : Decidable (SunIn f) := by unfold SunIn; exact inferInstance
instance (f : Nat → Int) : Decidable (SunBy f) := by unfold SunBy; exact inferInstance
/-- May a table be? -/
def sunErr (f : Nat → Int) : Int := if SunIn f then if SunBy f then 0 else 71 else 70
theorem sunErr_70 {f : Nat → Int} {i : Nat} (h : i < 12) (c : f i < 900 ∨ 1320 < f i) : sunErr f = 70 := by
  unfold sunErr; rw [if_neg]; intro k; have := k i h; omega
theorem sunErr_71 {f : Nat → Int} {i : Nat} (h : i < 12) (k : SunIn f) (c : 120 < f ((i + 1) % 12) - f i ∨ f ((i + 1) % 12) - f i < -120) : sunErr f = 71 := by
  unfold sunErr; rw [if_pos k, if_neg]; intro k; have := k i h; omega
theorem sunErr_0 {f : Nat → Int} (k : SunIn f) (l : SunBy f) : sunErr f = 0 := by
  unfold sunErr; rw [if_pos k, if_pos l]
theorem sunErr_cases (f : Nat → Int) : (sunErr f = 0 ∧ SunIn f ∧ SunBy f) ∨ sunErr f = 70 ∨ sunErr f = 71 := by
  by_cases a : SunIn f
  · by_cases b : SunBy f
    · exact .inl ⟨sunErr_0 a b, a, b⟩
    · right; right; unfold sunErr; rw [if_pos a, if_neg b]
  · right; left; unfold sunErr; rw [if_neg a]

end Go.Proofs.YtdjfmcomeaijgaaDoor
