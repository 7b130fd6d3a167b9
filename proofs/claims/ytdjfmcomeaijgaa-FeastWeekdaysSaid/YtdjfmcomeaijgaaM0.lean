/- The Hebrew years' moons, delays and lengths, as plain numbers: no program in sight. -/
import Derived.Test.YtdjfmcomeaijgaaA0
namespace Go.Proofs.Ytdjfmcomeaijgaa
open Go.RowKit

/-- Has a Hebrew year 13 months? -/
def leapB (h : Int) : Bool := decide ((7 * (h % 19) + 1) % 19 < 7)
/-- The months ahead of a year. -/
def mon (h : Int) : Int := (235 * h - 234) / 19
/-- The parts ahead of a year's moon, from the first moon's day on. -/
def parts (h : Int) : Int := 5604 + 765433 * mon h
def mday (h : Int) : Int := -1373427 + parts h / 25920
def mpart (h : Int) : Int := parts h % 25920
/-- Is a year put off, by the first three rules? -/
def putB (h : Int) : Bool := decide (19440 ≤ mpart h) || (decide (mday h % 7 = 2) && decide (9924 ≤ mpart h) && !leapB h) || (decide (mday h % 7 = 1) && decide (16789 ≤ mpart h) && leapB (h - 1))
def put1 (h : Int) : Int := if putB h = true then 1 else 0
def offB (w : Int) : Bool := decide (w = 0) || decide (w = 3) || decide (w = 5)
/-- By how many days a year is put off. -/
def dly (h : Int) : Int := if offB ((mday h + put1 h) % 7) = true then put1 h + 1 else put1 h
/-- A year's first day, and its length. -/
def ny (h : Int) : Int := mday h + dly h
def ylen (h : Int) : Int := ny (h + 1) - ny h

theorem turn19 (h : Int) : ∃ q : Int, h = 19 * q ∨ h = 19 * q + 1 ∨ h = 19 * q + 2 ∨ h = 19 * q + 3 ∨ h = 19 * q + 4 ∨ h = 19 * q + 5 ∨ h = 19 * q + 6 ∨ h = 19 * q + 7 ∨ h = 19 * q + 8 ∨ h = 19 * q + 9 ∨
    h = 19 * q + 10 ∨ h = 19 * q + 11 ∨ h = 19 * q + 12 ∨ h = 19 * q + 13 ∨ h = 19 * q + 14 ∨ h = 19 * q + 15 ∨ h = 19 * q + 16 ∨ h = 19 * q + 17 ∨ h = 19 * q + 18 := ⟨h / 19, by omega⟩

theorem mon_succ (h : Int) : mon (h + 1) = mon h + 12 + (if leapB h = true then 1 else 0) := by
  unfold mon leapB
  obtain ⟨q, e⟩ := turn19 h
  rcases e with e | e | e | e | e | e | e | e | e | e | e | e | e | e | e | e | e | e | e <;> subst e
  all_goals first | (rw [if_pos (by simp only [decide_eq_true_eq]; omega)]; omega) | (rw [if_neg (by simp only [decide_eq_true_eq]; omega)]; omega)

theorem mon_row (r : Int) : mon (19 * r + 1) = 235 * r := by unfold mon; omega
theorem mon_19 (h : Int) : mon (h + 19) = mon h + 235 := by unfold mon; omega
theorem leap_two (h : Int) : leapB h = true → leapB (h + 1) = false := by
  unfold leapB; simp only [decide_eq_true_eq, decide_eq_false_iff_not]
  obtain ⟨q, e⟩ := turn19 h
  rcases e with e | e | e | e | e | e | e | e | e | e | e | e | e | e | e | e | e | e | e <;> subst e <;> omega
theorem mon_bd (h : Int) (h1 : 3000 ≤ h) (h2 : h ≤ 10100) : 0 ≤ mon h ∧ mon h ≤ 130000 := by unfold mon; omega
theorem parts_bd (h : Int) (h1 : 3000 ≤ h) (h2 : h ≤ 10100) : 0 ≤ parts h ∧ parts h ≤ 100000000000 := by
  have := mon_bd h h1 h2
  unfold parts; omega
theorem mday_bd (h : Int) (h1 : 3000 ≤ h) (h2 : h ≤ 10100) : -1373427 ≤ mday h ∧ mday h ≤ 3000000 := by
  have := parts_bd h h1 h2
  unfold mday; omega
theorem mpart_bd (h : Int) : 0 ≤ mpart h ∧ mpart h < 25920 := by unfold mpart; omega
theorem put_bd (h : Int) : 0 ≤ put1 h ∧ put1 h ≤ 1 := by unfold put1; split <;> omega
theorem dly_bd (h : Int) : 0 ≤ dly h ∧ dly h ≤ 2 := by
  have := put_bd h
  unfold dly; split <;> omega
theorem ny_bd (h : Int) (h1 : 3000 ≤ h) (h2 : h ≤ 10100) : -1373427 ≤ ny h ∧ ny h ≤ 3000002 := by
  have := mday_bd h h1 h2
  have := dly_bd h
  unfold ny; omega

theorem ny_week (h : Int) : offB (ny h % 7) = false := by
  unfold ny dly
  generalize mday h = d
  have b := put_bd h
  generalize put1 h = p at *
  unfold offB
  by_cases c : ((d + p) % 7 = 0 ∨ (d + p) % 7 = 3) ∨ (d + p) % 7 = 5
  · rw [if_pos (by simpa using c)]
    simp only [Bool.or_eq_false_iff, decide_eq_false_iff_not]; omega
  · rw [if_neg (by simpa using c)]
    simp only [Bool.or_eq_false_iff, decide_eq_false_iff_not]; omega

theorem dly_late (h : Int) : 19440 ≤ mpart h → 0 < dly h := by
  intro c
  have : put1 h = 1 := by unfold put1 putB; rw [if_pos]; simp [c]
  unfold dly; rw [this]; split <;> omega

/-- 'f' holds at each number from lo on, 2^d of them. -/
def allB (f : Nat → Bool) : Nat → Nat → Bool
  | 0, lo => f lo
  | d + 1, lo => allB f d lo && allB f d (lo + 2 ^ d)
theorem allB_at {f : Nat → Bool} : ∀ (d lo : Nat), allB f d lo = true → ∀ i, lo ≤ i → i < lo + 2 ^ d → f i = true := by
  intro d
  induction d with
  | zero => intro lo h i h1 h2; have : i = lo := by omega
            subst this; exact h
  | succ d ih =>
    intro lo h i h1 h2
    simp only [allB, Bool.and_eq_true] at h
    have e : 2 ^ (d + 1) = 2 ^ d + 2 ^ d := by rw [Nat.pow_succ]; omega
    by_cases c : i < lo + 2 ^ d
    · exact ih lo h.1 i h1 c
    · exact ih _ h.2 i (by omega) (by omega)

def lenOk (i : Nat) : Bool := let l := ylen (i : Int); if leapB (i : Int) then l == 383 || l == 384 || l == 385 else l == 353 || l == 354 || l == 355
theorem lens_all : allB lenOk 13 3000 = true := by decide +kernel
theorem len_cases (h : Int) (h1 : 3000 ≤ h) (h2 : h ≤ 10100) : (leapB h = true ∧ (ylen h = 383 ∨ ylen h = 384 ∨ ylen h = 385)) ∨ (leapB h = false ∧ (ylen h = 353 ∨ ylen h = 354 ∨ ylen h = 355)) := by
  have := allB_at 13 3000 lens_all h.toNat (by omega) (by omega)
  have e : ((h.toNat : Nat) : Int) = h := by omega
  unfold lenOk at this
  rw [e] at this
  cases hl : leapB h with
  | true => rw [hl] at this; left; refine ⟨rfl, ?_⟩; simpa [or_assoc] using this
  | false => rw [hl] at this; right; refine ⟨rfl, ?_⟩; simpa [or_assoc] using this

end Go.Proofs.Ytdjfmcomeaijgaa
