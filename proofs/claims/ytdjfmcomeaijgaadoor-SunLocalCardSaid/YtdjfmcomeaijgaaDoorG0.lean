/- The days of the Gregorian calendar, as plain numbers: no program in sight. -/
import Derived.Test.YtdjfmcomeaijgaaDoorA0
namespace Go.Proofs.YtdjfmcomeaijgaaDoor
open Go.RowKit
set_option linter.unusedVariables false
set_option linter.unusedSimpArgs false

/-- Has a year 366 days? -/
def lpB (y : Int) : Bool := (decide (y % 4 = 0) && !decide (y % 100 = 0)) || decide (y % 400 = 0)
def lp (y : Int) : Int := if lpB y = true then 1 else 0
/-- A month's days, of a year that is not leap. -/
def len12 (m : Int) : Int := if m = 2 then 28 else if m = 4 ∨ m = 6 ∨ m = 9 ∨ m = 11 then 30 else 31
def OkM (y m : Int) : Prop := 1 ≤ y ∧ y ≤ 9999 ∧ 1 ≤ m ∧ m ≤ 12
instance (y m : Int) : Decidable (OkM y m) := by unfold OkM; infer_instance
/-- A month's days. -/
def dim (y m : Int) : Int := if OkM y m then (if m = 2 then 28 + lp y else len12 m) else 0
/-- The days ahead of a year. -/
def bef (y : Int) : Int := 365 * (y - 1) + (y - 1) / 4 - (y - 1) / 100 + (y - 1) / 400
/-- The days of a year ahead of a month. -/
def cum0 (m : Int) : Int := if m = 2 then 31 else if m = 3 then 59 else if m = 4 then 90 else if m = 5 then 120 else if m = 6 then 151 else if m = 7 then 181 else if m = 8 then 212 else if m = 9 then 243 else if m = 10 then 273 else if m = 11 then 304 else if m = 12 then 334 else if m = 13 then 365 else 0
def cum (y m : Int) : Int := if 3 ≤ m then cum0 m + lp y else cum0 m
def num (y m d : Int) : Int := bef y + cum y m + d
/-- May a date be? -/
def May (y m d : Int) : Prop := 1 ≤ d ∧ d ≤ dim y m

theorem lp_01 (y : Int) : 0 ≤ lp y ∧ lp y ≤ 1 := by unfold lp; split <;> omega
theorem lp_of (y : Int) : (lp y = 1 ∧ ((y % 4 = 0 ∧ y % 100 ≠ 0) ∨ y % 400 = 0)) ∨ (lp y = 0 ∧ ¬((y % 4 = 0 ∧ y % 100 ≠ 0) ∨ y % 400 = 0)) := by
  unfold lp lpB
  by_cases h : (y % 4 = 0 ∧ y % 100 ≠ 0) ∨ y % 400 = 0
  · left; rw [if_pos (by simpa using h)]; exact ⟨rfl, h⟩
  · right; rw [if_neg (by simpa using h)]; exact ⟨rfl, h⟩

/-- A year is so many times 400, 100, 4 and 1 ahead. -/
theorem parts_of (p : Int) : ∃ q c k o : Int, p = 400 * q + 100 * c + 4 * k + o ∧ 0 ≤ c ∧ c ≤ 3 ∧ 0 ≤ k ∧ k ≤ 24 ∧ 0 ≤ o ∧ o ≤ 3 :=
  ⟨p / 400, p % 400 / 100, p % 100 / 4, p % 4, by omega, by omega, by omega, by omega, by omega, by omega, by omega⟩

theorem bef_parts {q c k o : Int} (hc : 0 ≤ c) (hc' : c ≤ 3) (hk : 0 ≤ k) (hk' : k ≤ 24) (ho : 0 ≤ o) (ho' : o ≤ 3) :
    bef (400 * q + 100 * c + 4 * k + o + 1) = 146097 * q + 36524 * c + 1461 * k + 365 * o := by
  unfold bef
  have e1 : (400 * q + 100 * c + 4 * k + o + 1 - 1) / 4 = 100 * q + 25 * c + k := by omega
  have e2 : (400 * q + 100 * c + 4 * k + o + 1 - 1) / 100 = 4 * q + c := by omega
  have e3 : (400 * q + 100 * c + 4 * k + o + 1 - 1) / 400 = q := by omega
  rw [e1, e2, e3]; omega

theorem lp_parts {q c k o : Int} (hc : 0 ≤ c) (hc' : c ≤ 3) (hk : 0 ≤ k) (hk' : k ≤ 24) (ho : 0 ≤ o) (ho' : o ≤ 3) :
    lp (400 * q + 100 * c + 4 * k + o + 1) = if o = 3 ∧ (k ≠ 24 ∨ c = 3) then 1 else 0 := by
  have h := lp_of (400 * q + 100 * c + 4 * k + o + 1)
  split
  · omega
  · omega

theorem bef_succ (y : Int) : bef (y + 1) = bef y + 365 + lp y := by
  obtain ⟨q, c, k, o, e, hc, hc', hk, hk', ho, ho'⟩ := parts_of (y - 1)
  have ey : y = 400 * q + 100 * c + 4 * k + o + 1 := by omega
  rw [ey, bef_parts hc hc' hk hk' ho ho', lp_parts hc hc' hk hk' ho ho']
  by_cases h3 : o = 3
  · by_cases h24 : k = 24
    · by_cases hc3 : c = 3
      · subst h3 h24 hc3
        have := bef_parts (q := q + 1) (c := 0) (k := 0) (o := 0) (by omega) (by omega) (by omega) (by omega) (by omega) (by omega)
        rw [show 400 * q + 100 * 3 + 4 * 24 + 3 + 1 + 1 = 400 * (q + 1) + 100 * 0 + 4 * 0 + 0 + 1 from by omega, this]; simp; omega
      · subst h3 h24
        have := bef_parts (q := q) (c := c + 1) (k := 0) (o := 0) (by omega) (by omega) (by omega) (by omega) (by omega) (by omega)
        rw [show 400 * q + 100 * c + 4 * 24 + 3 + 1 + 1 = 400 * q + 100 * (c + 1) + 4 * 0 + 0 + 1 from by omega, this]; rw [if_neg (by omega)]; omega
    · subst h3
      have := bef_parts (q := q) (c := c) (k := k + 1) (o := 0) (by omega) (by omega) (by omega) (by omega) (by omega) (by omega)
      rw [show 400 * q + 100 * c + 4 * k + 3 + 1 + 1 = 400 * q + 100 * c + 4 * (k + 1) + 0 + 1 from by omega, this]; rw [if_pos (by omega)]; omega
  · have := bef_parts (q := q) (c := c) (k := k) (o := o + 1) (by omega) (by omega) (by omega) (by omega) (by omega) (by omega)
    rw [show 400 * q + 100 * c + 4 * k + o + 1 + 1 = 400 * q + 100 * c + 4 * k + (o + 1) + 1 from by omega, this, if_neg (by omega)]; omega

theorem bef_bd (y : Int) (h1 : 0 ≤ y) (h2 : y ≤ 10000) : -366 ≤ bef y ∧ bef y ≤ 3652059 := by unfold bef; omega
theorem bef_le {a b : Int} (h : a ≤ b) : bef a ≤ bef b := by
  obtain ⟨n, hn⟩ : ∃ n : Nat, b = a + n := ⟨(b - a).toNat, by omega⟩
  subst hn
  clear h
  induction n with
  | zero => simp
  | succ n ih =>
    have := bef_succ (a + n)
    have l := lp_01 (a + n)
    rw [show a + ((n + 1 : Nat) : Int) = a + n + 1 from by omega]
    omega

theorem len12_bd (m : Int) : 28 ≤ len12 m ∧ len12 m ≤ 31 := by
  unfold len12
  repeat' split
  all_goals omega
theorem dim_bd (y m : Int) : 0 ≤ dim y m ∧ dim y m ≤ 31 := by
  have := lp_01 y; have := len12_bd m
  unfold dim; repeat' split
  all_goals omega
theorem dim_ok {y m : Int} (h : OkM y m) : 28 ≤ dim y m := by
  have := lp_01 y; have := len12_bd m
  unfold dim; rw [if_pos h]; split <;> omega
theorem dim_no {y m : Int} (h : ¬ OkM y m) : dim y m = 0 := by unfold dim; rw [if_neg h]
theorem okM_of {y m d : Int} (h : May y m d) : OkM y m := by
  by_cases c : OkM y m
  · exact c
  · have := dim_no c; unfold May at h; omega
theorem may_dec (y m d : Int) : May y m d ∨ ¬ May y m d := Classical.em _

theorem months12 {m : Int} (h1 : 1 ≤ m) (h2 : m ≤ 12) : m = 1 ∨ m = 2 ∨ m = 3 ∨ m = 4 ∨ m = 5 ∨ m = 6 ∨ m = 7 ∨ m = 8 ∨ m = 9 ∨ m = 10 ∨ m = 11 ∨ m = 12 := by omega

theorem cum_succ {y m : Int} (h : OkM y m) : cum y (m + 1) = cum y m + dim y m := by
  unfold dim; rw [if_pos h]
  obtain ⟨_, _, h1, h2⟩ := h
  unfold cum cum0 len12
  rcases months12 h1 h2 with e | e | e | e | e | e | e | e | e | e | e | e <;> subst e <;> simp <;> omega
theorem cum_one (y : Int) : cum y 1 = 0 := by unfold cum cum0; simp
theorem cum_13 (y : Int) : cum y 13 = 365 + lp y := by unfold cum cum0; simp
theorem cum_bd (y : Int) {m : Int} (h1 : 1 ≤ m) (h2 : m ≤ 13) : 0 ≤ cum y m ∧ cum y m ≤ 366 := by
  have := lp_01 y
  unfold cum cum0
  repeat' split
  all_goals omega
theorem cum_le {y a b : Int} (hy : 1 ≤ y ∧ y ≤ 9999) (h1 : 1 ≤ a) (h : a ≤ b) (h2 : b ≤ 13) : cum y a ≤ cum y b := by
  obtain ⟨n, hn⟩ : ∃ n : Nat, b = a + n := ⟨(b - a).toNat, by omega⟩
  subst hn
  clear h
  induction n with
  | zero => simp
  | succ n ih =>
    have := cum_succ (y := y) (m := a + n) ⟨hy.1, hy.2, by omega, by omega⟩
    have l := dim_bd y (a + n)
    have := ih (by omega)
    rw [show a + ((n + 1 : Nat) : Int) = a + n + 1 from by omega]
    omega

/-- A date lies in its month, and the month in its year. -/
theorem may_in {y m d : Int} (h : May y m d) : 1 ≤ y ∧ y ≤ 9999 ∧ 1 ≤ m ∧ m ≤ 12 ∧ bef y < num y m d ∧ num y m d ≤ bef (y + 1) ∧ cum y m < num y m d - bef y ∧ num y m d - bef y ≤ cum y (m + 1) := by
  have k := okM_of h
  have k' := k
  obtain ⟨a, b, c, e⟩ := k'
  have s := bef_succ y
  have t := cum_succ k
  have u := cum_bd y c (by omega)
  have v := cum_le (y := y) (a := m + 1) (b := 13) ⟨a, b⟩ (by omega) (by omega) (by omega)
  rw [cum_13] at v
  unfold May at h
  unfold num
  refine ⟨a, b, c, e, ?_, ?_, ?_, ?_⟩ <;> omega

theorem num_inj {y m d y' m' d' : Int} (h : May y m d) (h' : May y' m' d') (e : num y m d = num y' m' d') : y = y' ∧ m = m' ∧ d = d' := by
  obtain ⟨a1, a2, a3, a4, a5, a6, a7, a8⟩ := may_in h
  obtain ⟨b1, b2, b3, b4, b5, b6, b7, b8⟩ := may_in h'
  have ey : y = y' := by
    rcases Int.lt_trichotomy y y' with c | c | c
    · have := bef_le (a := y + 1) (b := y') (by omega); omega
    · exact c
    · have := bef_le (a := y' + 1) (b := y) (by omega); omega
  subst ey
  have em : m = m' := by
    rcases Int.lt_trichotomy m m' with c | c | c
    · have := cum_le (y := y) (a := m + 1) (b := m') ⟨a1, a2⟩ (by omega) (by omega) (by omega); omega
    · exact c
    · have := cum_le (y := y) (a := m' + 1) (b := m) ⟨a1, a2⟩ (by omega) (by omega) (by omega); omega
  subst em
  refine ⟨rfl, rfl, ?_⟩
  unfold num at e; omega

theorem num_bd {y m d : Int} (h : May y m d) : 1 ≤ num y m d ∧ num y m d ≤ 3652059 := by
  obtain ⟨a1, a2, a3, a4, a5, a6, _⟩ := may_in h
  have := bef_le (a := 1) (b := y) (by omega)
  have := bef_le (a := y + 1) (b := 10000) (by omega)
  have e1 : bef 1 = 0 := by decide
  have e2 : bef 10000 = 3652059 := by decide
  omega

/-- The year of a number, and its day's place in it. -/
def lf1 (n : Int) : Int := (n - 1) % 146097
def ce (n : Int) : Int := if lf1 n / 36524 ≤ 3 then lf1 n / 36524 else 3
def lf2 (n : Int) : Int := lf1 n - ce n * 36524
def lf3 (n : Int) : Int := lf2 n % 1461
def oe (n : Int) : Int := if lf3 n / 365 ≤ 3 then lf3 n / 365 else 3
def yOf (n : Int) : Int := 1 + 400 * ((n - 1) / 146097) + (100 * ce n + 4 * (lf2 n / 1461)) + oe n
def rOf (n : Int) : Int := lf3 n - oe n * 365

theorem yr_of {n : Int} (h1 : 1 ≤ n) (h2 : n ≤ 3652059) : 1 ≤ yOf n ∧ yOf n ≤ 9999 ∧ bef (yOf n) + rOf n = n - 1 ∧ 0 ≤ rOf n ∧ rOf n < 365 + lp (yOf n) := by
  have a1 : 0 ≤ lf1 n ∧ lf1 n < 146097 ∧ n - 1 = 146097 * ((n - 1) / 146097) + lf1 n ∧ 0 ≤ (n - 1) / 146097 ∧ (n - 1) / 146097 ≤ 24 := by unfold lf1; omega
  generalize hq : (n - 1) / 146097 = q at *
  have a2 : 0 ≤ ce n ∧ ce n ≤ 3 ∧ 0 ≤ lf2 n ∧ lf1 n = 36524 * ce n + lf2 n ∧ (ce n < 3 → lf2 n < 36524) ∧ lf2 n ≤ 36524 := by
    unfold lf2 ce; split <;> omega
  have a3 : 0 ≤ lf2 n / 1461 ∧ lf2 n / 1461 ≤ 24 ∧ lf2 n = 1461 * (lf2 n / 1461) + lf3 n ∧ 0 ≤ lf3 n ∧ lf3 n < 1461 := by unfold lf3; omega
  generalize hk : lf2 n / 1461 = k at *
  have a4 : 0 ≤ oe n ∧ oe n ≤ 3 ∧ lf3 n = 365 * oe n + rOf n ∧ 0 ≤ rOf n ∧ (oe n < 3 → rOf n < 365) ∧ rOf n ≤ 365 := by
    unfold rOf oe; split <;> omega
  have ey : yOf n = 400 * q + 100 * ce n + 4 * k + oe n + 1 := by unfold yOf; rw [hq, hk]; omega
  have eb := bef_parts (q := q) a2.1 a2.2.1 a3.1 a3.2.1 a4.1 a4.2.1
  have el := lp_parts (q := q) a2.1 a2.2.1 a3.1 a3.2.1 a4.1 a4.2.1
  rw [← ey] at eb el
  refine ⟨by omega, ?_, by omega, by omega, ?_⟩
  · have : q ≤ 24 := a1.2.2.2.2
    by_cases c : q = 24
    · subst c; omega
    · omega
  · rw [el]
    split
    · omega
    · omega

/-- The month of a number, and its day. -/
def mFrom (y r : Int) : Int := if r < cum y 2 then 1 else if r < cum y 3 then 2 else if r < cum y 4 then 3 else if r < cum y 5 then 4 else if r < cum y 6 then 5 else if r < cum y 7 then 6 else if r < cum y 8 then 7 else if r < cum y 9 then 8 else if r < cum y 10 then 9 else if r < cum y 11 then 10 else if r < cum y 12 then 11 else 12
def mOf (n : Int) : Int := mFrom (yOf n) (rOf n)
def dOf (n : Int) : Int := rOf n - cum (yOf n) (mOf n) + 1

theorem mFrom_of {y r : Int} (h0 : 0 ≤ r) (h1 : r < 365 + lp y) : 1 ≤ mFrom y r ∧ mFrom y r ≤ 12 ∧ cum y (mFrom y r) ≤ r ∧ r < cum y (mFrom y r + 1) := by
  have e1 := cum_one y
  have e13 := cum_13 y
  unfold mFrom
  repeat' split
  all_goals
    refine ⟨by omega, by omega, ?_, ?_⟩
    · first | omega | (simp only [cum_one]; omega)
    · first | omega | (simp; omega)

theorem of_may {n : Int} (h1 : 1 ≤ n) (h2 : n ≤ 3652059) : May (yOf n) (mOf n) (dOf n) ∧ num (yOf n) (mOf n) (dOf n) = n := by
  obtain ⟨a, b, c, d, e⟩ := yr_of h1 h2
  obtain ⟨f, g, i, j⟩ := mFrom_of d e
  have k : OkM (yOf n) (mOf n) := ⟨a, b, f, g⟩
  have s := cum_succ k
  have hm : mFrom (yOf n) (rOf n) = mOf n := rfl
  rw [hm] at i j
  refine ⟨⟨?_, ?_⟩, ?_⟩
  · unfold dOf; omega
  · unfold dOf; omega
  · unfold num dOf; omega

theorem of_num {y m d : Int} (h : May y m d) : yOf (num y m d) = y ∧ mOf (num y m d) = m ∧ dOf (num y m d) = d := by
  have b := num_bd h
  have o := of_may b.1 b.2
  exact num_inj o.1 h o.2

theorem of_way1 (n : Int) (hA : 3 < (n - 1) % 146097 / 36524) : 1 + 400 * ((n - 1) / 146097) + (300 + 4 * (((n - 1) % 146097 - 109572) / 1461)) + 3 = yOf n ∧ ((n - 1) % 146097 - 109572) % 1461 - 1095 = rOf n := by
  have hc : ce n = 3 := by unfold ce lf1; rw [if_neg (by omega)]
  have e2 : lf2 n = (n - 1) % 146097 - 109572 := by unfold lf2 lf1; rw [hc]; omega
  have e3 : lf3 n = ((n - 1) % 146097 - 109572) % 1461 := by unfold lf3; rw [e2]
  have ho : oe n = 3 := by unfold oe; rw [e3, if_neg (by omega)]
  constructor
  · unfold yOf; rw [hc, e2, ho]; omega
  · unfold rOf; rw [e3, ho]; omega
theorem of_way2 (n : Int) (hA : (n - 1) % 146097 / 36524 ≤ 3) (hB : 3 < ((n - 1) % 146097 - (n - 1) % 146097 / 36524 * 36524) % 1461 / 365) :
    1 + 400 * ((n - 1) / 146097) + (100 * ((n - 1) % 146097 / 36524) + 4 * (((n - 1) % 146097 - (n - 1) % 146097 / 36524 * 36524) / 1461)) + 3 = yOf n ∧ ((n - 1) % 146097 - (n - 1) % 146097 / 36524 * 36524) % 1461 - 1095 = rOf n := by
  have hc : ce n = (n - 1) % 146097 / 36524 := by unfold ce lf1; rw [if_pos hA]
  have e2 : lf2 n = (n - 1) % 146097 - (n - 1) % 146097 / 36524 * 36524 := by unfold lf2 lf1; rw [hc]
  have e3 : lf3 n = ((n - 1) % 146097 - (n - 1) % 146097 / 36524 * 36524) % 1461 := by unfold lf3; rw [e2]
  have ho : oe n = 3 := by unfold oe; rw [e3, if_neg (by omega)]
  constructor
  · unfold yOf; rw [hc, e2, ho]
  · unfold rOf; rw [e3, ho]; omega
theorem of_way3 (n : Int) (hA : (n - 1) % 146097 / 36524 ≤ 3) (hB : ((n - 1) % 146097 - (n - 1) % 146097 / 36524 * 36524) % 1461 / 365 ≤ 3) :
    1 + 400 * ((n - 1) / 146097) + (100 * ((n - 1) % 146097 / 36524) + 4 * (((n - 1) % 146097 - (n - 1) % 146097 / 36524 * 36524) / 1461)) + ((n - 1) % 146097 - (n - 1) % 146097 / 36524 * 36524) % 1461 / 365 = yOf n ∧
    ((n - 1) % 146097 - (n - 1) % 146097 / 36524 * 36524) % 1461 - ((n - 1) % 146097 - (n - 1) % 146097 / 36524 * 36524) % 1461 / 365 * 365 = rOf n := by
  have hc : ce n = (n - 1) % 146097 / 36524 := by unfold ce lf1; rw [if_pos hA]
  have e2 : lf2 n = (n - 1) % 146097 - (n - 1) % 146097 / 36524 * 36524 := by unfold lf2 lf1; rw [hc]
  have e3 : lf3 n = ((n - 1) % 146097 - (n - 1) % 146097 / 36524 * 36524) % 1461 := by unfold lf3; rw [e2]
  have ho : oe n = ((n - 1) % 146097 - (n - 1) % 146097 / 36524 * 36524) % 1461 / 365 := by unfold oe; rw [e3, if_pos hB]
  constructor
  · unfold yOf; rw [hc, e2, ho]
  · unfold rOf; rw [e3, ho]

end Go.Proofs.YtdjfmcomeaijgaaDoor
