/- The Hebrew months and dates as plain numbers: no program in sight. -/
import Derived.Test.YtdjfmcomeaijgaaM1
namespace Go.Proofs.Ytdjfmcomeaijgaa
open Go.RowKit

/-- How many days a month has. -/
def hdim (h m : Int) : Int :=
  if h < 3762 ∨ 9999 < h ∨ m < 1 ∨ 13 < m then 0
  else if m = 6 ∧ leapB h = false then 0
  else if (m = 2 ∧ ylen h % 10 = 5) ∨ (m = 3 ∧ ylen h % 10 ≠ 3) ∨ m = 1 ∨ m = 5 ∨ m = 6 ∨ m = 8 ∨ m = 10 ∨ m = 12 then 30 else 29
/-- The days of a year's first k months. -/
def hcum (h : Int) : Nat → Int
  | 0 => 0
  | k + 1 => hcum h k + hdim h (k + 1)
/-- May a date be? -/
def HMay (h m d : Int) : Prop := 1 ≤ d ∧ d ≤ hdim h m
instance (h m d : Int) : Decidable (HMay h m d) := by unfold HMay; exact inferInstance
/-- A date's number. -/
def hnum (h m d : Int) : Int := ny h + hcum h (m.toNat - 1) + d - 1

theorem hdim_no {h m : Int} (c : ¬ Yr h ∨ m < 1 ∨ 13 < m) : hdim h m = 0 := by
  unfold hdim; rw [if_pos]; unfold Yr at c; omega
theorem hdim_in {h m : Int} (c : hdim h m ≠ 0) : Yr h ∧ 1 ≤ m ∧ m ≤ 13 := by
  unfold hdim at c
  split at c
  · exact (c rfl).elim
  · unfold Yr; omega
theorem hdim_bd (h m : Int) : hdim h m = 0 ∨ hdim h m = 29 ∨ hdim h m = 30 := by
  unfold hdim; repeat' split
  all_goals simp
theorem hdim_ge (h m : Int) : 0 ≤ hdim h m ∧ hdim h m ≤ 30 := by have := hdim_bd h m; omega
theorem hdim_yr {h : Int} (hy : Yr h) (m : Int) (h1 : 1 ≤ m) (h2 : m ≤ 13) : hdim h m =
    if m = 6 ∧ leapB h = false then 0
    else if (m = 2 ∧ ylen h % 10 = 5) ∨ (m = 3 ∧ ylen h % 10 ≠ 3) ∨ m = 1 ∨ m = 5 ∨ m = 6 ∨ m = 8 ∨ m = 10 ∨ m = 12 then 30 else 29 := by
  unfold hdim; rw [if_neg]; unfold Yr at hy; omega
theorem HMay.yr {h m d : Int} (c : HMay h m d) : Yr h ∧ 1 ≤ m ∧ m ≤ 13 ∧ 1 ≤ d ∧ d ≤ 30 := by
  obtain ⟨c1, c2⟩ := c
  have := hdim_ge h m
  have := hdim_in (h := h) (m := m) (by omega)
  obtain ⟨a, b, c⟩ := this
  exact ⟨a, b, c, by omega, by omega⟩

theorem hdim_0 {h : Int} (hy : Yr h) : hdim h 1 = 30 ∧ hdim h 2 = (if ylen h % 10 = 5 then 30 else 29) ∧ hdim h 3 = (if ylen h % 10 = 3 then 29 else 30) ∧ hdim h 4 = 29 ∧ hdim h 5 = 30 ∧
    hdim h 6 = (if leapB h = true then 30 else 0) ∧ hdim h 7 = 29 ∧ hdim h 8 = 30 ∧ hdim h 9 = 29 ∧ hdim h 10 = 30 ∧ hdim h 11 = 29 ∧ hdim h 12 = 30 ∧ hdim h 13 = 29 := by
  refine ⟨?_, ?_, ?_, ?_, ?_, ?_, ?_, ?_, ?_, ?_, ?_, ?_, ?_⟩
  all_goals rw [hdim_yr hy _ (by omega) (by omega)]
  all_goals cases leapB h <;> by_cases a : ylen h % 10 = 5 <;> by_cases b : ylen h % 10 = 3 <;> simp [a, b]

theorem hcum_13 {h : Int} (hy : Yr h) : hcum h 13 = ylen h := by
  obtain ⟨e1, e2, e3, e4, e5, e6, e7, e8, e9, e10, e11, e12, e13⟩ := hdim_0 hy
  have c := len_cases h (by have := hy.1; omega) (by have := hy.2; omega)
  have f : hcum h 13 = 0 + hdim h 1 + hdim h 2 + hdim h 3 + hdim h 4 + hdim h 5 + hdim h 6 + hdim h 7 + hdim h 8 + hdim h 9 + hdim h 10 + hdim h 11 + hdim h 12 + hdim h 13 := rfl
  rw [f, e1, e2, e3, e4, e5, e6, e7, e8, e9, e10, e11, e12, e13]
  rcases c with ⟨l, c⟩ | ⟨l, c⟩ <;> rw [l] <;> rcases c with c | c | c <;> rw [c] <;> decide

theorem hcum_mono (h : Int) (i j : Nat) (c : i ≤ j) : hcum h i ≤ hcum h j := by
  induction j with
  | zero => have : i = 0 := by omega
            subst this; exact Int.le_refl _
  | succ j ih =>
    by_cases e : i = j + 1
    · subst e; exact Int.le_refl _
    · have := ih (by omega)
      have b := hdim_ge h (j + 1)
      simp only [hcum]; omega
theorem hcum_bd {h : Int} (hy : Yr h) (k : Nat) (hk : k ≤ 13) : 0 ≤ hcum h k ∧ hcum h k ≤ ylen h := by
  have a := hcum_mono h 0 k (by omega)
  have b := hcum_mono h k 13 hk
  rw [hcum_13 hy] at b
  exact ⟨a, b⟩
theorem hcum_step (h m : Int) (h1 : 1 ≤ m) : hcum h m.toNat = hcum h (m.toNat - 1) + hdim h m := by
  obtain ⟨k, e⟩ : ∃ k, m.toNat = k + 1 := ⟨m.toNat - 1, by omega⟩
  have e2 : m = (k : Int) + 1 := by omega
  rw [e]; simp only [hcum, Nat.add_sub_cancel]; rw [e2]

theorem ylen_bd {h : Int} (hy : Yr h) : 353 ≤ ylen h ∧ ylen h ≤ 385 := by
  have := len_cases h (by have := hy.1; omega) (by have := hy.2; omega)
  omega
theorem ny_succ (h : Int) : ny (h + 1) = ny h + ylen h := by unfold ylen; omega
theorem ny_mono {a b : Int} (ha : 3762 ≤ a) (hb : b ≤ 10000) (c : a ≤ b) : ny a + 353 * (b - a) ≤ ny b ∧ ny b ≤ ny a + 385 * (b - a) := by
  obtain ⟨k, e⟩ : ∃ k : Nat, b = a + k := ⟨(b - a).toNat, by omega⟩
  subst e
  induction k with
  | zero => simp
  | succ k ih =>
    have i := ih (by omega) (by omega)
    have l := ylen_bd (h := a + k) ⟨by omega, by omega⟩
    have s := ny_succ (a + k)
    have e : a + ((k + 1 : Nat) : Int) = a + k + 1 := by omega
    rw [e, s]
    omega

/-- A date's number lies in its year. -/
theorem hnum_bd {h m d : Int} (c : HMay h m d) : ny h ≤ hnum h m d ∧ hnum h m d < ny h + ylen h ∧ ny h + hcum h (m.toNat - 1) ≤ hnum h m d ∧ hnum h m d < ny h + hcum h m.toNat := by
  obtain ⟨y, m1, m2, d1, d2⟩ := c.yr
  have s := hcum_step h m m1
  have a := hcum_bd y (m.toNat - 1) (by omega)
  have b := hcum_bd y m.toNat (by omega)
  obtain ⟨_, c2⟩ := c
  unfold hnum
  omega

theorem ny_first : ny 3762 = 0 + ny 3762 := by omega

/-- Each day has its year. -/
theorem hyear_at (n : Int) (h1 : ny 3762 ≤ n) (h2 : n < ny 10000) : ∃ h, Yr h ∧ ny h ≤ n ∧ n < ny h + ylen h := by
  have go : ∀ k : Nat, k ≤ 6238 → n < ny (3762 + k) → ∃ h, Yr h ∧ ny h ≤ n ∧ n < ny h + ylen h := by
    intro k
    induction k with
    | zero => intro _ c; simp at c; omega
    | succ k ih =>
      intro hk c
      by_cases c2 : n < ny (3762 + k)
      · exact ih (by omega) c2
      · refine ⟨3762 + k, ⟨by omega, by omega⟩, by omega, ?_⟩
        have s := ny_succ (3762 + k)
        have e : (3762 : Int) + ((k + 1 : Nat) : Int) = 3762 + k + 1 := by omega
        rw [e] at c; omega
  exact go 6238 (by omega) h2

theorem hmonth_at {h : Int} (r : Int) (k : Nat) (h1 : 0 ≤ r) (h2 : r < hcum h k) : ∃ m : Int, 1 ≤ m ∧ m ≤ k ∧ hcum h (m.toNat - 1) ≤ r ∧ r < hcum h m.toNat := by
  induction k with
  | zero => simp [hcum] at h2; omega
  | succ k ih =>
    by_cases c : r < hcum h k
    · obtain ⟨m, a, b, x⟩ := ih c
      exact ⟨m, a, by omega, x⟩
    · refine ⟨k + 1, by omega, by omega, ?_, ?_⟩
      · have e : ((k : Int) + 1).toNat - 1 = k := by omega
        rw [e]; omega
      · have e : ((k : Int) + 1).toNat = k + 1 := by omega
        rw [e]; exact h2

/-- Each number from the first day on has a date. -/
theorem hdate_at (n : Int) (h1 : ny 3762 ≤ n) (h2 : n < ny 10000) : ∃ h m d, HMay h m d ∧ hnum h m d = n := by
  obtain ⟨h, hy, a, b⟩ := hyear_at n h1 h2
  obtain ⟨m, m1, m2, c, d⟩ := hmonth_at (h := h) (n - ny h) 13 (by omega) (by rw [hcum_13 hy]; omega)
  have s := hcum_step h m m1
  refine ⟨h, m, n - ny h - hcum h (m.toNat - 1) + 1, ⟨by omega, by omega⟩, ?_⟩
  unfold hnum; omega

/-- Two months of a year that a day lies in are one. -/
theorem hmonth_one {h r a b : Int} (ha : 1 ≤ a) (hb : 1 ≤ b) (h1 : hcum h (a.toNat - 1) ≤ r) (h2 : r < hcum h a.toNat) (h3 : hcum h (b.toNat - 1) ≤ r) (h4 : r < hcum h b.toNat) : a = b := by
  rcases Int.lt_trichotomy a b with c | c | c
  · have := hcum_mono h a.toNat (b.toNat - 1) (by omega); omega
  · exact c
  · have := hcum_mono h b.toNat (a.toNat - 1) (by omega); omega
theorem hyear_one {n a b : Int} (ha : Yr a) (hb : Yr b) (h1 : ny a ≤ n) (h2 : n < ny a + ylen a) (h3 : ny b ≤ n) (h4 : n < ny b + ylen b) : a = b := by
  have sa := ny_succ a
  have sb := ny_succ b
  obtain ⟨a1, a2⟩ := ha
  obtain ⟨b1, b2⟩ := hb
  rcases Int.lt_trichotomy a b with c | c | c
  · have := (ny_mono (a := a + 1) (b := b) (by omega) (by omega) (by omega)).1; omega
  · exact c
  · have := (ny_mono (a := b + 1) (b := a) (by omega) (by omega) (by omega)).1; omega

end Go.Proofs.Ytdjfmcomeaijgaa
