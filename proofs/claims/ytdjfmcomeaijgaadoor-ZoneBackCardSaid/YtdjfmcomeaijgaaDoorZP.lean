/- Turns of a zone, as plain numbers: at a turn clocks are set, and not a minute ahead. -/
import Derived.Test.YtdjfmcomeaijgaaDoorZ8
import Derived.Test.YtdjfmcomeaijgaaDoorS5
namespace Go.Proofs.YtdjfmcomeaijgaaDoor
open Go.RowKit
set_option linter.unusedVariables false
set_option linter.unusedSimpArgs false

theorem bef_pos {y : Int} (h : 1 ≤ y) : 0 ≤ bef y := by unfold bef; omega
theorem yOf_eq {y n : Int} (hy : 1 ≤ y) (hy2 : y ≤ 9999) (h1 : bef y < n) (h2 : n ≤ bef (y + 1)) : yOf n = y := by
  have b0 := bef_pos hy
  have b1 := bef_bd (y + 1) (by omega) (by omega)
  obtain ⟨a, b, c, d, e⟩ := yr_of (n := n) (by omega) (by omega)
  have s := bef_succ (yOf n)
  by_cases c1 : yOf n < y
  · have := bef_le (a := yOf n + 1) (b := y) (by omega); omega
  · by_cases c2 : y < yOf n
    · have := bef_le (a := y + 1) (b := yOf n) (by omega); omega
    · omega
theorem nth_in {y m w k : Int} (h : OkM y m) (hk : OkN w k) (h5 : k ≠ 5) : fst1 y m ≤ (nthV y m w k).1 ∧ (nthV y m w k).1 ≤ fst1 y m + dim y m - 1 ∧ (nthV y m w k).2 = 0 := by
  have g := hit_bd (w := w) h
  have d := dim_ok h
  unfold nthV
  rw [if_pos h, if_pos hk]
  unfold OkN at hk
  split
  · dsimp only
    unfold lastW
    refine ⟨by omega, by omega, rfl⟩
  · rw [if_pos (by omega)]
    dsimp only
    refine ⟨by omega, by omega, rfl⟩
theorem okN_wk {m k d t : Int} (h : tOk m k d t = true) : OkN d (wk k) ∧ wk k ≠ 5 := by
  have o := tOk_iff.1 h
  unfold OkN wk
  split <;> omega
theorem fst_eq (y m : Int) : fst1 y m = bef y + cum y m + 1 := rfl

/-- Where a turn's day lies in its year. -/
theorem day_in {y m k d t : Int} (h1 : 1 ≤ y) (h2 : y ≤ 9999) (h : tOk m k d t = true) :
    bef y + cum y m < (nthV y m d (wk k)).1 ∧ (nthV y m d (wk k)).1 ≤ bef y + cum y (m + 1) ∧ bef y < (nthV y m d (wk k)).1 ∧ (nthV y m d (wk k)).1 ≤ bef (y + 1) ∧ (nthV y m d (wk k)).2 = 0 := by
  have o := tOk_iff.1 h
  have om : OkM y m := ⟨h1, h2, o.1, o.2.1⟩
  obtain ⟨n1, n2⟩ := okN_wk h
  obtain ⟨a, b, c⟩ := nth_in om n1 n2
  have s := cum_succ om
  have f := fst_eq y m
  have c0 := cum_bd y o.1 (by omega)
  have c1 := cum_le (y := y) (a := m + 1) (b := 13) ⟨h1, h2⟩ (by omega) (by omega) (by omega)
  rw [cum_13] at c1
  have bs := bef_succ y
  exact ⟨by omega, by omega, by omega, by omega, c⟩

theorem shiftV_at {z : Zn} {u y a b : Int} (hs : z.s ≠ 0) (hy : yOf ((u + z.b) / 1440) = y) (ha : whenV z.b z.m z.k z.d z.t y = a) (hb : whenV z.b z.m' z.k' z.d' z.t' y = b) :
    shiftV z u = if (a < b ∧ a ≤ u ∧ u < b) ∨ (b < a ∧ (u < b ∨ a ≤ u)) then z.s else 0 := by
  unfold shiftV
  rw [if_neg hs, hy, ha, hb]

theorem gap_two {z : Zn} (h : zErr z = 0) (hs : z.s ≠ 0) : 2 ≤ gapM z ∧ gapM z ≤ 10 := by
  unfold zErr at h
  split at h
  · cases h
  · split at h
    · cases h
    · split at h
      · rename_i x; exact x.2.2
      · cases h

/-- The two turns of a year are apart, by their months. -/
theorem day_lt {y m k d t m' k' d' t' : Int} (h1 : 1 ≤ y) (h2 : y ≤ 9999) (h : tOk m k d t = true) (h' : tOk m' k' d' t' = true) (hm : m < m') : (nthV y m d (wk k)).1 < (nthV y m' d' (wk k')).1 := by
  have o := tOk_iff.1 h
  have o' := tOk_iff.1 h'
  have a := day_in h1 h2 h
  have a' := day_in h1 h2 h'
  have c := cum_le (y := y) (a := m + 1) (b := m') ⟨h1, h2⟩ (by omega) (by omega) (by omega)
  omega

theorem when_eq (b m k d t y : Int) : whenV b m k d t y = (nthV y m d (wk k)).1 * 1440 + t - b := rfl

/-- A minute ahead of a turn's day: the year before, or the same one. -/
theorem year_ahead {y N : Int} (h1 : 3 ≤ y) (h2 : y ≤ 9990) (a : bef y < N) (b : N ≤ bef (y + 1)) : yOf N = y ∧ ((bef y < N - 1 ∧ yOf (N - 1) = y) ∨ (N - 1 = bef y ∧ yOf (N - 1) = y - 1)) := by
  refine ⟨yOf_eq (by omega) (by omega) a b, ?_⟩
  by_cases c : bef y < N - 1
  · exact .inl ⟨c, yOf_eq (by omega) (by omega) c (by omega)⟩
  · have s := bef_succ (y - 1)
    have l := lp_01 (y - 1)
    rw [show y - 1 + 1 = y from by omega] at s
    exact .inr ⟨by omega, yOf_eq (by omega) (by omega) (by omega) (by rw [show y - 1 + 1 = y from by omega]; omega)⟩

theorem turns_plain {z : Zn} {y : Int} (hz : zErr z = 0) (hs : z.s ≠ 0) (h1 : 3 ≤ y) (h2 : y ≤ 9990) :
    shiftV z (whenV z.b z.m z.k z.d z.t y) = z.s ∧ shiftV z (whenV z.b z.m z.k z.d z.t y - 1) = 0 ∧ shiftV z (whenV z.b z.m' z.k' z.d' z.t' y) = 0 ∧ shiftV z (whenV z.b z.m' z.k' z.d' z.t' y - 1) = z.s := by
  obtain ⟨t1, t2⟩ := zErr_turns hz hs
  have g := gap_two hz hs
  have o1 := tOk_iff.1 t1
  have o2 := tOk_iff.1 t2
  obtain ⟨a1, a2, a3, a4, _⟩ := day_in (y := y) (by omega) (by omega) t1
  obtain ⟨b1, b2, b3, b4, _⟩ := day_in (y := y) (by omega) (by omega) t2
  obtain ⟨p1, p2, p3, p4, _⟩ := day_in (y := y - 1) (by omega) (by omega) t1
  obtain ⟨q1, q2, q3, q4, _⟩ := day_in (y := y - 1) (by omega) (by omega) t2
  rw [show y - 1 + 1 = y from by omega] at p4 q4
  have ya := year_ahead h1 h2 a3 a4
  have yb := year_ahead h1 h2 b3 b4
  have hm : z.m < z.m' ∨ z.m' < z.m := by unfold gapM at g; split at g <;> omega
  have wA := when_eq z.b z.m z.k z.d z.t y
  have wB := when_eq z.b z.m' z.k' z.d' z.t' y
  have vA := when_eq z.b z.m z.k z.d z.t (y - 1)
  have vB := when_eq z.b z.m' z.k' z.d' z.t' (y - 1)
  have lt1 : z.m < z.m' → (nthV y z.m z.d (wk z.k)).1 < (nthV y z.m' z.d' (wk z.k')).1 ∧ (nthV (y - 1) z.m z.d (wk z.k)).1 < (nthV (y - 1) z.m' z.d' (wk z.k')).1 := fun h => ⟨day_lt (by omega) (by omega) t1 t2 h, day_lt (by omega) (by omega) t1 t2 h⟩
  have lt2 : z.m' < z.m → (nthV y z.m' z.d' (wk z.k')).1 < (nthV y z.m z.d (wk z.k)).1 ∧ (nthV (y - 1) z.m' z.d' (wk z.k')).1 < (nthV (y - 1) z.m z.d (wk z.k)).1 := fun h => ⟨day_lt (by omega) (by omega) t2 t1 h, day_lt (by omega) (by omega) t2 t1 h⟩
  generalize (nthV y z.m z.d (wk z.k)).1 = NA at *
  generalize (nthV y z.m' z.d' (wk z.k')).1 = NB at *
  generalize (nthV (y - 1) z.m z.d (wk z.k)).1 = PA at *
  generalize (nthV (y - 1) z.m' z.d' (wk z.k')).1 = PB at *
  generalize hA : whenV z.b z.m z.k z.d z.t y = A at *
  generalize hB : whenV z.b z.m' z.k' z.d' z.t' y = B at *
  generalize hA' : whenV z.b z.m z.k z.d z.t (y - 1) = A' at *
  generalize hB' : whenV z.b z.m' z.k' z.d' z.t' (y - 1) = B' at *
  have eA : (A + z.b) / 1440 = NA := by omega
  have eB : (B + z.b) / 1440 = NB := by omega
  refine ⟨?_, ?_, ?_, ?_⟩
  · rw [shiftV_at hs (by rw [eA]; exact ya.1) hA hB, if_pos (by rcases hm with h | h; have := lt1 h; omega; have := lt2 h; omega)]
  · by_cases c : z.t = 0
    · have e : (A - 1 + z.b) / 1440 = NA - 1 := by omega
      rcases ya.2 with ⟨x, x2⟩ | ⟨x, x2⟩
      · rw [shiftV_at hs (by rw [e]; exact x2) hA hB, if_neg (by rcases hm with h | h; have := lt1 h; omega; have := lt2 h; omega)]
      · rw [shiftV_at hs (by rw [e]; exact x2) hA' hB', if_neg (by rcases hm with h | h; have := lt1 h; omega; have := lt2 h; omega)]
    · have e : (A - 1 + z.b) / 1440 = NA := by omega
      rw [shiftV_at hs (by rw [e]; exact ya.1) hA hB, if_neg (by rcases hm with h | h; have := lt1 h; omega; have := lt2 h; omega)]
  · rw [shiftV_at hs (by rw [eB]; exact yb.1) hA hB, if_neg (by rcases hm with h | h; have := lt1 h; omega; have := lt2 h; omega)]
  · by_cases c : z.t' = 0
    · have e : (B - 1 + z.b) / 1440 = NB - 1 := by omega
      rcases yb.2 with ⟨x, x2⟩ | ⟨x, x2⟩
      · rw [shiftV_at hs (by rw [e]; exact x2) hA hB, if_pos (by rcases hm with h | h; have := lt1 h; omega; have := lt2 h; omega)]
      · rw [shiftV_at hs (by rw [e]; exact x2) hA' hB', if_pos (by rcases hm with h | h; have := lt1 h; omega; have := lt2 h; omega)]
    · have e : (B - 1 + z.b) / 1440 = NB := by omega
      rw [shiftV_at hs (by rw [e]; exact yb.1) hA hB, if_pos (by rcases hm with h | h; have := lt1 h; omega; have := lt2 h; omega)]

/-- A turn of the years 3 to 9990, and the minute ahead, are reckoned. -/
theorem turn_bd {b m k d t y : Int} (h1 : 3 ≤ y) (h2 : y ≤ 9990) (hb1 : -720 ≤ b) (hb2 : b ≤ 840) (h : tOk m k d t = true) : 600000 ≤ whenV b m k d t y ∧ whenV b m k d t y ≤ 5258000000 := by
  have o := tOk_iff.1 h
  obtain ⟨a1, a2, a3, a4, _⟩ := day_in (y := y) (by omega) (by omega) h
  have l1 := bef_le (a := 3) (b := y) h1
  have l2 := bef_le (a := y + 1) (b := 9991) (by omega)
  have e1 : bef 3 = 730 := by decide +kernel
  have e2 : bef 9991 = 3648772 := by decide +kernel
  have w := when_eq b m k d t y
  omega

end Go.Proofs.YtdjfmcomeaijgaaDoor
