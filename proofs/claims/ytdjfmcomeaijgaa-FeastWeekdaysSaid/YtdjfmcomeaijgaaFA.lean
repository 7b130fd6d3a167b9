/- The feasts of a year, as plain numbers: no program in sight. -/
import Derived.Test.YtdjfmcomeaijgaaH8
import Derived.Test.YtdjfmcomeaijgaaH4
import Derived.Test.YtdjfmcomeaijgaaFH
namespace Go.Proofs.Ytdjfmcomeaijgaa
open Go.RowKit
set_option linter.unusedVariables false
set_option linter.unusedSimpArgs false

/-- The same, as the document says it. -/
def kindR (m d : Int) (ab : Bool) : Int :=
  if m = 1 then (if d = 1 ∨ d = 2 then 1 else if d = 10 then 2 else if d = 15 ∨ (ab = true ∧ d = 16) then 3 else if d = 22 ∨ (ab = true ∧ d = 23) then 4 else 0)
  else if m = 8 ∧ (d = 15 ∨ (ab = true ∧ d = 16)) then 5 else if m = 8 ∧ (d = 21 ∨ (ab = true ∧ d = 22)) then 6
  else if m = 10 ∧ (d = 6 ∨ (ab = true ∧ d = 7)) then 7 else 0
theorem kindV_R (m d : Int) (ab : Bool) : kindV m d ab = kindR m d ab := by
  by_cases h1 : m = 1
  · subst h1
    unfold kindV holyV kindR
    simp only [true_and, if_true, show ¬ ((1 : Int) = 8) by omega, show ¬ ((1 : Int) = 10) by omega, false_and, if_false]
    cases ab <;> repeat' split
    all_goals first | rfl | (exfalso; simp_all; done) | (exfalso; simp_all; omega)
  · by_cases h8 : m = 8
    · subst h8
      unfold kindV holyV kindR
      simp only [true_and, if_true, show ¬ ((8 : Int) = 1) by omega, show ¬ ((8 : Int) = 10) by omega, false_and, if_false]
      cases ab <;> repeat' split
      all_goals first | rfl | (exfalso; simp_all; done) | (exfalso; simp_all; omega)
    · by_cases h10 : m = 10
      · subst h10
        unfold kindV holyV kindR
        simp only [true_and, if_true, show ¬ ((10 : Int) = 1) by omega, show ¬ ((10 : Int) = 8) by omega, false_and, if_false]
        cases ab <;> repeat' split
        all_goals first | rfl | (exfalso; simp_all; done) | (exfalso; simp_all; omega)
      · unfold kindV holyV kindR
        simp [h1, h8, h10]

theorem kindV_bd (m d : Int) (ab : Bool) : 0 ≤ kindV m d ab ∧ kindV m d ab ≤ 7 := by
  rw [kindV_R]; unfold kindR
  repeat' split
  all_goals omega

/-- A feast's day lies so many days behind its New Year. -/
def offK (L i : Int) (ab : Bool) : Int :=
  if i = 0 ∨ i = 1 then 1 else if i = 9 then 2 else if i = 14 ∨ (ab = true ∧ i = 15) then 3 else if i = 21 ∨ (ab = true ∧ i = 22) then 4
  else if i = L - 163 ∨ (ab = true ∧ i = L - 162) then 5 else if i = L - 157 ∨ (ab = true ∧ i = L - 156) then 6
  else if i = L - 113 ∨ (ab = true ∧ i = L - 112) then 7 else 0

theorem hcum_9 {h : Int} (hy : Yr h) : hcum h 8 = ylen h - 147 ∧ hcum h 9 = ylen h - 118 ∧ hcum h 10 = ylen h - 88 ∧ hcum h 1 = 30 := by
  have a := hcum_7 hy
  obtain ⟨e1, e2, e3, e4, e5, e6, e7, e8, e9, e10, e11, e12, e13⟩ := hdim_0 hy
  have f8 : hcum h 8 = hcum h 7 + hdim h 8 := rfl
  have f9 : hcum h 9 = hcum h 8 + hdim h 9 := rfl
  have f10 : hcum h 10 = hcum h 9 + hdim h 10 := rfl
  have f1 : hcum h 1 = 0 + hdim h 1 := rfl
  omega

set_option maxHeartbeats 1000000 in
theorem off1 {L d : Int} (ab : Bool) (d1 : 1 ≤ d) (d2 : d ≤ 30) (hL : 353 ≤ L) : kindR 1 d ab = offK L (d - 1) ab := by
  unfold kindR offK
  rw [if_pos rfl]
  cases ab <;> simp only [Bool.false_eq_true, false_and, or_false, true_and] <;> repeat' split
  all_goals first | rfl | (exfalso; omega)
set_option maxHeartbeats 1000000 in
theorem off8 {L d : Int} (ab : Bool) (d1 : 1 ≤ d) (d2 : d ≤ 30) (hL : 353 ≤ L) : kindR 8 d ab = offK L (L - 178 + d) ab := by
  unfold kindR offK
  rw [if_neg (by omega)]
  cases ab <;> simp only [Bool.false_eq_true, false_and, or_false, true_and] <;> repeat' split
  all_goals first | rfl | (exfalso; omega)
set_option maxHeartbeats 1000000 in
theorem off10 {L d : Int} (ab : Bool) (d1 : 1 ≤ d) (d2 : d ≤ 30) (hL : 353 ≤ L) : kindR 10 d ab = offK L (L - 119 + d) ab := by
  unfold kindR offK
  rw [if_neg (by omega), if_neg (by omega), if_neg (by omega)]
  cases ab <;> simp only [Bool.false_eq_true, false_and, or_false, true_and] <;> repeat' split
  all_goals first | rfl | (exfalso; omega)
theorem off_no {L o : Int} (ab : Bool) (hL : 353 ≤ L) (r1 : 30 ≤ o) (r2 : o < L - 177 ∨ (L - 147 ≤ o ∧ o < L - 118) ∨ L - 88 ≤ o) : offK L o ab = 0 := by
  unfold offK
  cases ab <;> simp only [Bool.false_eq_true, false_and, or_false, true_and] <;> repeat' split
  all_goals first | rfl | (exfalso; omega)

theorem kind_off {h m d : Int} (c : HMay h m d) (ab : Bool) : kindV m d ab = offK (ylen h) (hnum h m d - ny h) ab := by
  obtain ⟨hy, m1, m2, d1, d2⟩ := c.yr
  have b := hnum_bd c
  have lb := ylen_bd hy
  have e7 := hcum_7 hy
  obtain ⟨e8, e9, e10, e1⟩ := hcum_9 hy
  have u : hnum h m d = ny h + hcum h (m.toNat - 1) + d - 1 := rfl
  rw [kindV_R]
  by_cases q1 : m = 1
  · subst q1
    have z : hcum h ((1 : Int).toNat - 1) = 0 := rfl
    rw [z] at u
    rw [show hnum h 1 d - ny h = d - 1 by omega]
    exact off1 ab d1 d2 lb.1
  · by_cases q8 : m = 8
    · subst q8
      have z : hcum h ((8 : Int).toNat - 1) = hcum h 7 := rfl
      rw [z, e7] at u
      rw [show hnum h 8 d - ny h = ylen h - 178 + d by omega]
      exact off8 ab d1 d2 lb.1
    · by_cases q10 : m = 10
      · subst q10
        have z : hcum h ((10 : Int).toNat - 1) = hcum h 9 := rfl
        rw [z, e9] at u
        rw [show hnum h 10 d - ny h = ylen h - 119 + d by omega]
        exact off10 ab d1 d2 lb.1
      · have k : kindR m d ab = 0 := by unfold kindR; simp [q1, q8, q10]
        rw [k]
        have l1 := hcum_mono h 1 (m.toNat - 1) (by omega)
        refine (off_no ab lb.1 (by omega) ?_).symm
        by_cases c1 : m < 8
        · have l2 := hcum_mono h m.toNat 7 (by omega)
          left; omega
        · by_cases c2 : m = 9
          · subst c2
            have z1 : hcum h ((9 : Int).toNat - 1) = hcum h 8 := rfl
            have z2 : hcum h ((9 : Int).toNat) = hcum h 9 := rfl
            right; left; omega
          · have l2 := hcum_mono h 10 (m.toNat - 1) (by omega)
            right; right; omega

/-- A day's feast. -/
def KindN (n : Int) (ab : Bool) (k : Int) : Prop := ((n < ny 3762 ∨ ny 9999 + ylen 9999 ≤ n) ∧ k = 0) ∨ ∃ h m d, HMay h m d ∧ hnum h m d = n ∧ kindV m d ab = k
/-- Is a day one of rest? -/
def RestP (n : Int) (ab : Bool) : Prop := ∃ h m d, HMay h m d ∧ hnum h m d = n ∧ (n % 7 = 6 ∨ kindV m d ab ≠ 0)

theorem hnum_one {h m d h' m' d' : Int} (c : HMay h m d) (c' : HMay h' m' d') (e : hnum h m d = hnum h' m' d') : h = h' ∧ m = m' ∧ d = d' := by
  have b := hnum_bd c
  have b' := hnum_bd c'
  obtain ⟨hy, m1, m2, _⟩ := c.yr
  obtain ⟨hy', m1', m2', _⟩ := c'.yr
  have e1 : h = h' := hyear_one (n := hnum h m d) hy hy' (by omega) (by omega) (by omega) (by omega)
  subst e1
  have e2 : m = m' := hmonth_one (h := h) (r := hnum h m d - ny h) m1 m1' (by omega) (by omega) (by omega) (by omega)
  subst e2
  refine ⟨rfl, rfl, ?_⟩
  unfold hnum at e; omega
theorem kindN_one {n : Int} {ab : Bool} {k k' : Int} (a : KindN n ab k) (b : KindN n ab k') : k = k' := by
  rcases a with ⟨a1, a2⟩ | ⟨h, m, d, c, e, rfl⟩
  · rcases b with ⟨b1, b2⟩ | ⟨h', m', d', c', e', rfl⟩
    · omega
    · have := hnum_last c'; omega
  · rcases b with ⟨b1, b2⟩ | ⟨h', m', d', c', e', rfl⟩
    · have := hnum_last c; omega
    · obtain ⟨_, rfl, rfl⟩ := hnum_one c c' (by omega); rfl
theorem kindN_ex (n : Int) (ab : Bool) : ∃ k, KindN n ab k ∧ 0 ≤ k ∧ k ≤ 7 := by
  by_cases c : n < ny 3762 ∨ ny 9999 + ylen 9999 ≤ n
  · exact ⟨0, .inl ⟨c, rfl⟩, by omega, by omega⟩
  · obtain ⟨h, m, d, c1, c2⟩ := hdate_at n (by omega) (by have := ny_10000; omega)
    exact ⟨_, .inr ⟨h, m, d, c1, c2, rfl⟩, kindV_bd m d ab⟩
theorem kindN_of {h m d n : Int} (c : HMay h m d) (e : hnum h m d = n) (ab : Bool) : KindN n ab (kindV m d ab) := .inr ⟨h, m, d, c, e, rfl⟩
theorem restP_of {h m d n : Int} (c : HMay h m d) (e : hnum h m d = n) (ab : Bool) : RestP n ab ↔ (n % 7 = 6 ∨ kindV m d ab ≠ 0) := by
  constructor
  · rintro ⟨h', m', d', c', e', x⟩
    obtain ⟨_, rfl, rfl⟩ := hnum_one c c' (by omega)
    exact x
  · exact fun x => ⟨h, m, d, c, e, x⟩
theorem restP_no {n : Int} (c : n < ny 3762 ∨ ny 9999 + ylen 9999 ≤ n) (ab : Bool) : ¬ RestP n ab := by
  rintro ⟨h', m', d', c', e', x⟩
  have := hnum_last c'
  omega
theorem rest_kind {n : Int} {ab : Bool} {k : Int} (hk : KindN n ab k) : RestP n ab ↔ ((ny 3762 ≤ n ∧ n < ny 9999 + ylen 9999) ∧ (n % 7 = 6 ∨ k ≠ 0)) := by
  rcases hk with ⟨a, b⟩ | ⟨h, m, d, c, e, rfl⟩
  · constructor
    · exact fun x => absurd x (restP_no a ab)
    · intro x; omega
  · rw [restP_of c e]
    have := hnum_last c
    constructor
    · exact fun x => ⟨by omega, x⟩
    · exact fun x => x.2

/-- Each day of a year's first 280 ones, by its offset. -/
theorem kind_at {h i : Int} (hy : Yr h) (h1 : 0 ≤ i) (h2 : i < ylen h) (ab : Bool) : KindN (ny h + i) ab (offK (ylen h) i ab) ∧ ny 3762 ≤ ny h + i ∧ ny h + i < ny 9999 + ylen 9999 := by
  obtain ⟨m, m1, m2, c, d⟩ := hmonth_at (h := h) i 13 h1 (by rw [hcum_13 hy]; omega)
  have s := hcum_step h m m1
  have cM : HMay h m (i - hcum h (m.toNat - 1) + 1) := ⟨by omega, by omega⟩
  have e : hnum h m (i - hcum h (m.toNat - 1) + 1) = ny h + i := by unfold hnum; omega
  have k := kind_off cM ab
  rw [e, show ny h + i - ny h = i from by omega] at k
  have l := hnum_last cM
  rw [e] at l
  exact ⟨.inr ⟨h, m, _, cM, e, k⟩, l.1, l.2⟩

/-- A feast's day, by its year. -/
theorem feast_year {n : Int} {ab : Bool} {k : Int} (hk : KindN n ab k) (h0 : k ≠ 0) : ∃ h, Yr h ∧ ny h ≤ n ∧ n < ny h + ylen h ∧ k = offK (ylen h) (n - ny h) ab := by
  rcases hk with ⟨a, b⟩ | ⟨h, m, d, c, e, rfl⟩
  · exact absurd b h0
  · have b := hnum_bd c
    have o := kind_off c ab
    obtain ⟨hy, _⟩ := c.yr
    rw [e] at b o
    exact ⟨h, hy, b.1, b.2.1, o⟩
theorem offK_in {L i : Int} {ab : Bool} (h : offK L i ab ≠ 0) : i = 0 ∨ i = 1 ∨ i = 9 ∨ i = 14 ∨ i = 15 ∨ i = 21 ∨ i = 22 ∨ i = L - 163 ∨ i = L - 162 ∨ i = L - 157 ∨ i = L - 156 ∨ i = L - 113 ∨ i = L - 112 := by
  unfold offK at h
  repeat' split at h
  all_goals omega
theorem feast_apart {n : Int} {ab : Bool} {k k2 k3 : Int} (hk : KindN n ab k) (hk2 : KindN (n + 2) ab k2) (hk3 : KindN (n + 3) ab k3) (h0 : k ≠ 0) : k2 = 0 ∧ k3 = 0 := by
  obtain ⟨h, hy, a, b, o⟩ := feast_year hk h0
  have lb := ylen_bd hy
  have i1 := offK_in (L := ylen h) (i := n - ny h) (ab := ab) (by omega)
  constructor
  · refine Classical.byContradiction fun c => ?_
    obtain ⟨h', hy', a', b', o'⟩ := feast_year hk2 c
    have e : h = h' := hyear_one (n := n + 2) hy hy' (by omega) (by omega) (by omega) (by omega)
    subst e
    have i2 := offK_in (L := ylen h) (i := n + 2 - ny h) (ab := ab) (by omega)
    omega
  · refine Classical.byContradiction fun c => ?_
    obtain ⟨h', hy', a', b', o'⟩ := feast_year hk3 c
    have e : h = h' := hyear_one (n := n + 3) hy hy' (by omega) (by omega) (by omega) (by omega)
    subst e
    have i2 := offK_in (L := ylen h) (i := n + 3 - ny h) (ab := ab) (by omega)
    omega

/-- No four days of rest touch. -/
theorem no_four {n : Int} {ab : Bool} (h0 : RestP n ab) (h1 : RestP (n + 1) ab) (h2 : RestP (n + 2) ab) (h3 : RestP (n + 3) ab) : False := by
  obtain ⟨k0, e0, _⟩ := kindN_ex n ab
  obtain ⟨k1, e1, _⟩ := kindN_ex (n + 1) ab
  obtain ⟨k2, e2, _⟩ := kindN_ex (n + 2) ab
  obtain ⟨k3, e3, _⟩ := kindN_ex (n + 3) ab
  obtain ⟨k4, e4, _⟩ := kindN_ex (n + 1 + 3) ab
  have r0 := (rest_kind e0).1 h0
  have r1 := (rest_kind e1).1 h1
  have r2 := (rest_kind e2).1 h2
  have r3 := (rest_kind e3).1 h3
  have f0 := feast_apart e0 e2 e3
  have f1 := feast_apart e1 (k2 := k3) (by rw [show n + 1 + 2 = n + 3 by omega]; exact e3) e4
  by_cases c0 : k0 = 0
  · by_cases c1 : k1 = 0
    · omega
    · have := f1 c1; omega
  · have := f0 c0; omega

/-- The days of rest that touch one. -/
theorem row_ex {n : Int} {ab : Bool} (h : RestP n ab) : ∃ a b, a ≤ n ∧ n ≤ b ∧ b - a ≤ 2 ∧ (∀ x, a ≤ x → x ≤ b → RestP x ab) ∧ ¬ RestP (a - 1) ab ∧ ¬ RestP (b + 1) ab := by
  have up : ∃ b, n ≤ b ∧ b - n ≤ 2 ∧ (∀ x, n ≤ x → x ≤ b → RestP x ab) ∧ ¬ RestP (b + 1) ab := by
    by_cases c1 : RestP (n + 1) ab
    · by_cases c2 : RestP (n + 1 + 1) ab
      · refine ⟨n + 2, by omega, by omega, ?_, fun c => no_four h c1 (by rw [show n + 2 = n + 1 + 1 by omega]; exact c2) (by rw [show n + 3 = n + 2 + 1 by omega]; exact c)⟩
        intro x x1 x2
        by_cases d0 : x = n
        · rw [d0]; exact h
        · by_cases d1 : x = n + 1
          · rw [d1]; exact c1
          · rw [show x = n + 1 + 1 by omega]; exact c2
      · refine ⟨n + 1, by omega, by omega, ?_, c2⟩
        intro x x1 x2
        by_cases d0 : x = n
        · rw [d0]; exact h
        · rw [show x = n + 1 by omega]; exact c1
    · exact ⟨n, by omega, by omega, fun x x1 x2 => by rw [show x = n by omega]; exact h, c1⟩
  have down : ∃ a, a ≤ n ∧ n - a ≤ 2 ∧ (∀ x, a ≤ x → x ≤ n → RestP x ab) ∧ ¬ RestP (a - 1) ab := by
    by_cases c1 : RestP (n - 1) ab
    · by_cases c2 : RestP (n - 1 - 1) ab
      · refine ⟨n - 2, by omega, by omega, ?_, fun c => no_four c (by rw [show n - 2 - 1 + 1 = n - 1 - 1 by omega]; exact c2) (by rw [show n - 2 - 1 + 2 = n - 1 by omega]; exact c1) (by rw [show n - 2 - 1 + 3 = n by omega]; exact h)⟩
        intro x x1 x2
        by_cases d0 : x = n
        · rw [d0]; exact h
        · by_cases d1 : x = n - 1
          · rw [d1]; exact c1
          · rw [show x = n - 1 - 1 by omega]; exact c2
      · refine ⟨n - 1, by omega, by omega, ?_, c2⟩
        intro x x1 x2
        by_cases d0 : x = n
        · rw [d0]; exact h
        · rw [show x = n - 1 by omega]; exact c1
    · exact ⟨n, by omega, by omega, fun x x1 x2 => by rw [show x = n by omega]; exact h, c1⟩
  obtain ⟨b, b1, b2, b3, b4⟩ := up
  obtain ⟨a, a1, a2, a3, a4⟩ := down
  have all : ∀ x, a ≤ x → x ≤ b → RestP x ab := fun x x1 x2 => by
    by_cases c : x ≤ n
    · exact a3 x x1 c
    · exact b3 x (by omega) x2
  refine ⟨a, b, a1, b1, ?_, all, a4, b4⟩
  refine Classical.byContradiction fun c => ?_
  exact no_four (n := a) (all a (by omega) (by omega)) (all (a + 1) (by omega) (by omega)) (all (a + 2) (by omega) (by omega)) (all (a + 3) (by omega) (by omega))

end Go.Proofs.Ytdjfmcomeaijgaa
