/- Plain facts on division with a rest, on the number that is nearest, and on wrapped sums: no program in sight. -/
import Derived.WalkKit
namespace Go.Proofs.Ytdjfmcomeaijgaa
open Go.RowKit

theorem ediv_bd (a b : Int) (hb : 1 ≤ b) : (0 ≤ a → 0 ≤ a / b ∧ a / b ≤ a) ∧ (a < 0 → a ≤ a / b ∧ a / b < 0) := by
  refine ⟨fun h => ⟨Int.ediv_nonneg h (by omega), Int.ediv_le_self b h⟩, fun h => ⟨?_, Int.ediv_neg_of_neg_of_pos h (by omega)⟩⟩
  refine (Int.le_ediv_iff_mul_le (by omega)).2 ?_
  have := Int.mul_le_mul_of_nonpos_left (a := a) (b := b) (c := 1) (by omega) hb
  omega

theorem emod_bd (a b : Int) (hb : 1 ≤ b) : 0 ≤ a % b ∧ a % b < b := ⟨Int.emod_nonneg a (by omega), Int.emod_lt_of_pos a (by omega)⟩

theorem tmod_cases (a b : Int) (hb : 1 ≤ b) : (0 ≤ a.tmod b → a.tmod b = a % b ∧ (0 ≤ a ∨ a.tmod b = 0)) ∧ (a.tmod b < 0 → a.tmod b + b = a % b ∧ a < 0) := by
  have e := Int.tmod_eq_emod (a := a) (b := b)
  have m := emod_bd a b hb
  by_cases h : 0 ≤ a ∨ b ∣ a
  · rw [if_pos h] at e
    refine ⟨fun _ => ⟨by omega, ?_⟩, fun h' => by omega⟩
    rcases h with h | h
    · exact Or.inl h
    · right; have := Int.emod_eq_zero_of_dvd h; omega
  · rw [if_neg h] at e
    have e2 : (b.natAbs : Int) = b := by omega
    rw [e2] at e
    refine ⟨fun h' => by omega, fun _ => ⟨by omega, by omega⟩⟩

theorem tdiv_cases (a b : Int) (hb : 1 ≤ b) : (0 ≤ a.tmod b → a.tdiv b = a / b) ∧ (a.tmod b < 0 → a.tdiv b = a / b + 1) := by
  have e := Int.tmod_add_mul_tdiv a b
  have f := Int.emod_add_mul_ediv a b
  have m := tmod_cases a b hb
  refine ⟨fun h => ?_, fun h => ?_⟩
  · have := (m.1 h).1
    have h3 : b * (a.tdiv b) = b * (a / b) := by omega
    exact Int.eq_of_mul_eq_mul_left (by omega) h3
  · have := (m.2 h).1
    have h3 : b * (a.tdiv b) = b * (a / b + 1) := by rw [Int.mul_add]; omega
    exact Int.eq_of_mul_eq_mul_left (by omega) h3

/-- Divided up. -/
def cdiv (a b : Int) : Int := if a % b = 0 then a / b else a / b + 1

theorem cdiv_zero {a b : Int} (h : a % b = 0) : cdiv a b = a / b := by unfold cdiv; rw [if_pos h]
theorem cdiv_one {a b : Int} (h : a % b ≠ 0) : cdiv a b = a / b + 1 := by unfold cdiv; rw [if_neg h]
theorem tmod_zero (a b : Int) (hb : 1 ≤ b) : a.tmod b = 0 ↔ a % b = 0 := by
  have m := tmod_cases a b hb
  have e := emod_bd a b hb
  constructor
  · intro h; have := (m.1 (by omega)).1; omega
  · intro h
    by_cases h2 : 0 ≤ a.tmod b
    · have := (m.1 h2).1; omega
    · have := (m.2 (by omega)).1
      have l := Int.lt_tmod_of_pos a (show 0 < b by omega)
      omega
theorem cdiv_bd (a b : Int) (hb : 1 ≤ b) (h0 : -9223372036854775808 ≤ a) (h1 : a ≤ 9223372036854775807) : -9223372036854775808 ≤ cdiv a b ∧ cdiv a b ≤ 9223372036854775807 := by
  have d := ediv_bd a b hb
  by_cases h : a % b = 0
  · rw [cdiv_zero h]; omega
  · rw [cdiv_one h]
    refine ⟨by omega, ?_⟩
    by_cases ha : 0 ≤ a
    · by_cases e : b = 1
      · subst e; simp at h
      · have f := Int.emod_add_mul_ediv a b
        have m := emod_bd a b hb
        have : 2 * (a / b) ≤ b * (a / b) := Int.mul_le_mul_of_nonneg_right (by omega) (d.1 ha).1
        omega
    · omega

theorem w64 {n : Int} (h : -9223372036854775808 ≤ n) (h' : n ≤ 9223372036854775807) : wrap64 n = n := by unfold wrap64; omega

/-- The next number's distance. -/
def gap (a b r : Int) : Int := (r - a) % b

theorem gap_of (a b r : Int) (hb : 1 ≤ b) (h0 : 0 ≤ r) (h1 : r < b) : gap a b r = if a % b ≤ r then r - a % b else r - a % b + b := by
  unfold gap
  have m := emod_bd a b hb
  have e : (r - a) % b = (r - a % b) % b := by rw [Int.sub_emod, Int.sub_emod r (a % b), Int.emod_emod]
  rw [e]
  split
  · exact Int.emod_eq_of_lt (by omega) (by omega)
  · rw [← Int.add_emod_right]; exact Int.emod_eq_of_lt (by omega) (by omega)

theorem gap_bd (a b r : Int) (hb : 1 ≤ b) : 0 ≤ gap a b r ∧ gap a b r < b := emod_bd _ _ hb

/-- The nearest. -/
def near (n lo hi : Int) : Int := if n < lo then lo else if hi < lo then lo else if hi < n then hi else n

theorem back_wrap (a b : Int) (hb : 1 ≤ b) (ha : -9223372036854775808 ≤ a) (ha' : a ≤ 9223372036854775807) : wrap64 (wrap64 (a / b * b) + a % b) = a := by
  have f := Int.emod_add_mul_ediv a b
  rw [Int.mul_comm] at f
  have m := emod_bd a b hb
  generalize a / b * b = x at *
  generalize a % b = y at *
  unfold wrap64
  omega

theorem steps_div (a b k : Int) (hb : 1 ≤ b) : (a + k * b) / b = a / b + k := Int.add_mul_ediv_right a k (by omega)
theorem steps_mod (a b k : Int) : (a + k * b) % b = a % b := Int.add_mul_emod_self_right a k b

theorem gap_mod (a b r : Int) (h0 : 0 ≤ r) (h1 : r < b) : (a + gap a b r) % b = r := by
  unfold gap
  have : (a + (r - a) % b) % b = (a + (r - a)) % b := by rw [Int.add_emod, Int.emod_emod, ← Int.add_emod]
  rw [this, show a + (r - a) = r from by omega]
  exact Int.emod_eq_of_lt h0 h1

theorem gap_self (a b r : Int) (h : a % b = r) : gap a b r = 0 := by
  subst h
  unfold gap
  rw [Int.sub_emod, Int.emod_emod, Int.sub_self, Int.zero_emod]

theorem prod_bd (b k : Int) (h1 : 1 ≤ b) (h2 : b ≤ 1048576) (h3 : -1000 ≤ k) (h4 : k ≤ 1000) : -1048576000 ≤ k * b ∧ k * b ≤ 1048576000 := by
  constructor
  · have := Int.mul_le_mul_of_nonneg_right (a := -1000) (b := k) (c := b) h3 (by omega); omega
  · have := Int.mul_le_mul_of_nonneg_right (a := k) (b := 1000) (c := b) h4 (by omega); omega

end Go.Proofs.Ytdjfmcomeaijgaa
