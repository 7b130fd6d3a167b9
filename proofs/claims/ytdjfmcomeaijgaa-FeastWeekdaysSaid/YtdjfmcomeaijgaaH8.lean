/- What follows a Hebrew date; the months' sums: plain numbers. -/
import Derived.Test.YtdjfmcomeaijgaaH0
namespace Go.Proofs.Ytdjfmcomeaijgaa
open Go.RowKit

theorem hdim_zero {h m : Int} (hy : Yr h) (h1 : 1 ≤ m) (h2 : m ≤ 13) (c : hdim h m = 0) : m = 6 ∧ leapB h = false := by
  rw [hdim_yr hy m h1 h2] at c
  split at c
  · assumption
  · split at c <;> omega

theorem hnext {h m d : Int} (c : HMay h m d) (hl : hnum h m d < ny 9999 + ylen 9999 - 1) : ∃ h2 m2 d2, HMay h2 m2 d2 ∧ hnum h2 m2 d2 = hnum h m d + 1 ∧
    ((d2 = d + 1 ∧ h2 = h ∧ m2 = m) ∨ (d2 = 1 ∧ d = hdim h m ∧ m2 = 1 ∧ h2 = h + 1 ∧ m = 13) ∨ (d2 = 1 ∧ d = hdim h m ∧ 1 < m2 ∧ h2 = h ∧ m2 = m + 1) ∨ (d2 = 1 ∧ d = hdim h m ∧ m2 = 7 ∧ h2 = h ∧ m = 5 ∧ leapB h = false)) := by
  obtain ⟨hy, m1, m2, d1, d2⟩ := c.yr
  obtain ⟨c1, c2⟩ := c
  have s := hcum_step h m m1
  by_cases hd : d < hdim h m
  · refine ⟨h, m, d + 1, ⟨by omega, by omega⟩, by unfold hnum; omega, .inl ⟨rfl, rfl, rfl⟩⟩
  · have hd : d = hdim h m := by omega
    by_cases h13 : m = 13
    · subst h13
      have t := hcum_13 hy
      have e : (13 : Int).toNat = 13 := rfl
      rw [e] at s
      rw [s] at t
      have hh : h < 9999 := by
        by_cases q : h < 9999
        · exact q
        · have : h = 9999 := by have := hy.2; omega
          subst this
          unfold hnum at hl
          rw [e] at hl
          omega
      have y2 : Yr (h + 1) := ⟨by have := hy.1; omega, by omega⟩
      have e1 := (hdim_0 y2).1
      refine ⟨h + 1, 1, 1, ⟨by omega, by omega⟩, ?_, .inr (.inl ⟨rfl, hd, rfl, rfl, rfl⟩)⟩
      have n := ny_succ h
      unfold hnum
      have z : hcum (h + 1) ((1 : Int).toNat - 1) = 0 := rfl
      rw [e, z]
      omega
    · have s2 := hcum_step h (m + 1) (by omega)
      have e : (m + 1).toNat - 1 = m.toNat := by omega
      rw [e] at s2
      by_cases z : hdim h (m + 1) = 0
      · obtain ⟨z1, z2⟩ := hdim_zero hy (by omega) (by omega) z
        have m5 : m = 5 := by omega
        subst m5
        have e7 := (hdim_0 hy).2.2.2.2.2.2.1
        refine ⟨h, 7, 1, ⟨by omega, by omega⟩, ?_, .inr (.inr (.inr ⟨rfl, hd, rfl, rfl, rfl, z2⟩))⟩
        unfold hnum
        rw [show (7 : Int).toNat - 1 = ((5 : Int) + 1).toNat from rfl]
        omega
      · have b := hdim_ge h (m + 1)
        refine ⟨h, m + 1, 1, ⟨by omega, by omega⟩, ?_, .inr (.inr (.inl ⟨rfl, hd, by omega, rfl, rfl⟩))⟩
        unfold hnum
        rw [e]
        omega

/-- How many of a year's first k months have days. -/
def hcnt (h : Int) : Nat → Int
  | 0 => 0
  | k + 1 => hcnt h k + if 0 < hdim h (k + 1) then 1 else 0
theorem hcnt_bd (h : Int) (k : Nat) : 0 ≤ hcnt h k ∧ hcnt h k ≤ k := by
  induction k with
  | zero => simp [hcnt]
  | succ k ih => simp only [hcnt]; split <;> omega
theorem hcnt_step (h M : Int) (hM : 0 ≤ M) : hcnt h ((M + 1).toNat - 1) = hcnt h (M.toNat - 1) + if 0 < hdim h M then 1 else 0 := by
  by_cases c : M = 0
  · subst c
    rw [hdim_no (.inr (.inl (by omega)))]
    simp
  · obtain ⟨k, e⟩ : ∃ k : Nat, M = k + 1 := ⟨M.toNat - 1, by omega⟩
    subst e
    have e1 : ((k : Int) + 1 + 1).toNat - 1 = k + 1 := by omega
    have e2 : ((k : Int) + 1).toNat - 1 = k := by omega
    rw [e1, e2]; simp only [hcnt]
theorem hcum_step0 (h M : Int) (hM : 0 ≤ M) : hcum h ((M + 1).toNat - 1) = hcum h (M.toNat - 1) + hdim h M := by
  by_cases c : M = 0
  · subst c
    rw [hdim_no (.inr (.inl (by omega)))]
    simp
  · rw [show (M + 1).toNat - 1 = M.toNat by omega]
    exact hcum_step h M (by omega)
theorem hcum_no {h : Int} (hy : ¬ Yr h) (k : Nat) : hcum h k = 0 := by
  induction k with
  | zero => rfl
  | succ k ih => simp only [hcum]; rw [ih, hdim_no (.inl hy)]; rfl
theorem hcum_all (h : Int) (k : Nat) : 0 ≤ hcum h k ∧ hcum h k ≤ 30 * k := by
  induction k with
  | zero => simp [hcum]
  | succ k ih => have := hdim_ge h (k + 1); simp only [hcum]; omega
theorem hcum_14 {h : Int} (hy : Yr h) : hcum h 14 = ylen h := by
  have : hcum h 14 = hcum h 13 + hdim h 14 := rfl
  rw [this, hcum_13 hy, hdim_no (.inr (.inr (by omega)))]; omega
theorem hcnt_14 {h : Int} (hy : Yr h) : hcnt h 14 = if leapB h = true then 13 else 12 := by
  obtain ⟨e1, e2, e3, e4, e5, e6, e7, e8, e9, e10, e11, e12, e13⟩ := hdim_0 hy
  have e14 := hdim_no (h := h) (m := 14) (.inr (.inr (by omega)))
  have p : ∀ x : Int, (0 < x) → (if 0 < x then (1 : Int) else 0) = 1 := fun x hx => if_pos hx
  have f : hcnt h 14 = 0 + (if 0 < hdim h 1 then 1 else 0) + (if 0 < hdim h 2 then 1 else 0) + (if 0 < hdim h 3 then 1 else 0) + (if 0 < hdim h 4 then 1 else 0) + (if 0 < hdim h 5 then 1 else 0) + (if 0 < hdim h 6 then 1 else 0) + (if 0 < hdim h 7 then 1 else 0) + (if 0 < hdim h 8 then 1 else 0) + (if 0 < hdim h 9 then 1 else 0) + (if 0 < hdim h 10 then 1 else 0) + (if 0 < hdim h 11 then 1 else 0) + (if 0 < hdim h 12 then 1 else 0) + (if 0 < hdim h 13 then 1 else 0) + (if 0 < hdim h 14 then 1 else 0) := rfl
  rw [f, p (hdim h 1) (by omega), p (hdim h 2) (by rw [e2]; split <;> omega), p (hdim h 3) (by rw [e3]; split <;> omega), p (hdim h 4) (by omega), p (hdim h 5) (by omega), p (hdim h 7) (by omega), p (hdim h 8) (by omega), p (hdim h 9) (by omega), p (hdim h 10) (by omega), p (hdim h 11) (by omega), p (hdim h 12) (by omega), p (hdim h 13) (by omega), e14, e6]
  cases leapB h <;> rfl
/-- The days of the months from the eighth on. -/
theorem hcum_7 {h : Int} (hy : Yr h) : hcum h 7 = ylen h - 177 := by
  obtain ⟨e1, e2, e3, e4, e5, e6, e7, e8, e9, e10, e11, e12, e13⟩ := hdim_0 hy
  have t := hcum_13 hy
  have f : hcum h 13 = hcum h 7 + hdim h 8 + hdim h 9 + hdim h 10 + hdim h 11 + hdim h 12 + hdim h 13 := rfl
  omega

end Go.Proofs.Ytdjfmcomeaijgaa
