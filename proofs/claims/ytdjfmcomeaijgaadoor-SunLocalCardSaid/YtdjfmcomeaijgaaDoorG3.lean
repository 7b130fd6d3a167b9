/- What Nth returns, said of whole numbers. -/
import Derived.Test.YtdjfmcomeaijgaaDoorG2
namespace Go.Proofs.YtdjfmcomeaijgaaDoor
open Go.RowKit
set_option linter.unusedVariables false
set_option linter.unusedSimpArgs false

def OkN (w k : Int) : Prop := 0 ≤ w ∧ w ≤ 6 ∧ (k = -1 ∨ (1 ≤ k ∧ k ≤ 5))
instance (w k : Int) : Decidable (OkN w k) := by unfold OkN; infer_instance
/-- A month's first day, and its first day of a weekday. -/
def fst1 (y m : Int) : Int := num y m 1
def hit1 (y m w : Int) : Int := fst1 y m + gap (fst1 y m) 7 w
def lastW (y m w : Int) : Int := hit1 y m w + (fst1 y m + dim y m - 1 - hit1 y m w) / 7 * 7
/-- The day of a month's weekday, and an error's number. -/
def nthV (y m w k : Int) : Int × Int :=
  if OkM y m then
    if OkN w k then
      if k = -1 then (lastW y m w, 0)
      else if hit1 y m w + 7 * (k - 1) < fst1 y m + dim y m then (hit1 y m w + 7 * (k - 1), 0) else (0, 22)
    else (0, 22)
  else (0, 20)

theorem may_one {y m : Int} (h : OkM y m) : May y m 1 := ⟨by omega, by have := dim_ok h; omega⟩
theorem fst_bd {y m : Int} (h : OkM y m) : 1 ≤ fst1 y m ∧ fst1 y m + dim y m - 1 ≤ 3652059 := by
  have a := num_bd (may_one h)
  have b := num_bd (y := y) (m := m) (d := dim y m) ⟨by have := dim_ok h; omega, by omega⟩
  unfold fst1
  unfold num at *
  omega
theorem hit_bd {y m w : Int} (h : OkM y m) : fst1 y m ≤ hit1 y m w ∧ hit1 y m w ≤ fst1 y m + 6 := by
  have := gap_bd (fst1 y m) 7 w (by omega)
  unfold hit1; omega

set_option maxHeartbeats 1000000 in
theorem gnth_nomonth (y m wd k : Int) (w : World) (hm : ¬ OkM y m) : Calls Tryd.prog 33 #[.int .i64 y, .int .i64 m, .int .i64 wd, .int .i64 k] w
    fun e w' => e = .returned (.tuple #[.int .i64 0, .int .i64 20]) ∧ Below w.heap.size w w' := by
  go_enter Tryd.func33, Tryd.ntmps33
  go_wp2_with fail
  refine (gdays_no _ _ _ hm).mono ?_; rintro e w' ⟨rfl, rfl⟩
  go_wp2
  go_ret2
  exact ⟨rfl, Below.refl _ _⟩

set_option maxHeartbeats 1000000 in
theorem gnth_no (y m wd k : Int) (w : World) (ht : Tab w) (hm : OkM y m) (hn : ¬ OkN wd k) : Calls Tryd.prog 33 #[.int .i64 y, .int .i64 m, .int .i64 wd, .int .i64 k] w
    fun e w' => e = .returned (.tuple #[.int .i64 0, .int .i64 22]) ∧ Below w.heap.size w w' := by
  have hd := dim_ok hm
  have hdb := dim_bd y m
  have hd0 : (dim y m == 0) = false := beq_eq_false_iff_ne.2 (by omega)
  have hc : wd < 0 ∨ (0 ≤ wd ∧ 6 < wd) ∨ (0 ≤ wd ∧ wd ≤ 6 ∧ (k != -1) = true ∧ k < 1) ∨ (0 ≤ wd ∧ wd ≤ 6 ∧ (k != -1) = true ∧ 1 ≤ k ∧ 5 < k) := by
    unfold OkN at hn
    by_cases c1 : wd < 0
    · exact .inl c1
    by_cases c2 : 6 < wd
    · exact .inr (.inl ⟨by omega, c2⟩)
    have c5 : (k != -1) = true := by rw [bne_iff_ne]; omega
    by_cases c3 : k < 1
    · exact .inr (.inr (.inl ⟨by omega, by omega, c5, c3⟩))
    · exact .inr (.inr (.inr ⟨by omega, by omega, c5, by omega, by omega⟩))
  clear hn
  rcases hc with hc | ⟨hc, hc2⟩ | ⟨hc, hc2, hc3, hc4⟩ | ⟨hc, hc2, hc3, hc4, hc5⟩
  all_goals
    go_enter Tryd.func33, Tryd.ntmps33
    go_wp2_with fail
    refine (gdays_ok _ _ _ ht hm).mono ?_; rintro e w' ⟨rfl, rfl⟩
    go_wp2
    go_ret2
    exact ⟨rfl, Below.refl _ _⟩

set_option maxHeartbeats 1000000 in
theorem gnth_last (y m wd : Int) (w : World) (ht : Tab w) (hm : OkM y m) (n1 : 0 ≤ wd) (n2 : wd ≤ 6) : Calls Tryd.prog 33 #[.int .i64 y, .int .i64 m, .int .i64 wd, .int .i64 (-1)] w
    fun e w' => e = .returned (.tuple #[.int .i64 (lastW y m wd), .int .i64 0]) ∧ Below w.heap.size w w' := by
  have hd := dim_ok hm
  have hdb := dim_bd y m
  have hd0 : (dim y m == 0) = false := beq_eq_false_iff_ne.2 (by omega)
  have hf := fst_bd hm
  have hh := hit_bd (w := wd) hm
  have hone := may_one hm
  have hgap : num y m 1 + gap (num y m 1) 7 wd = hit1 y m wd := rfl
  have hnum : num y m 1 = fst1 y m := rfl
  have hgapH := Lib.hid (show num y m 1 + gap (num y m 1) 7 wd ≤ 9223372036854775807 by rw [hgap]; omega)
  have hI : I64 (num y m 1) := by unfold I64; rw [hnum]; omega
  have hG := Lib.hid hgap
  have hN := Lib.hid hnum
  clear hgap hnum
  go_enter Tryd.func33, Tryd.ntmps33
  go_wp2_with fail
  refine (gdays_ok _ _ _ ht hm).mono ?_; rintro e w' ⟨rfl, rfl⟩
  go_wp2_with fail
  refine (gday_ok _ _ _ _ ht hone).mono ?_; rintro e w1 ⟨rfl, hb1⟩
  go_wp2_with fail
  refine (next_ok _ _ _ _ (by omega) hI (by omega) n1 (by omega) hgapH.out).mono ?_; rintro e w' ⟨rfl, rfl⟩
  rw [hG.out, hN.out]
  go_wp2
  go_ret2
  exact ⟨two (by unfold lastW; rfl) rfl, hb1⟩

set_option maxHeartbeats 1000000 in
theorem gnth_k (y m wd k : Int) (w : World) (ht : Tab w) (hm : OkM y m) (n1 : 0 ≤ wd) (n2 : wd ≤ 6) (k1 : 1 ≤ k) (k2 : k ≤ 5) : Calls Tryd.prog 33 #[.int .i64 y, .int .i64 m, .int .i64 wd, .int .i64 k] w
    fun e w' => e = .returned (.tuple #[.int .i64 (if hit1 y m wd + 7 * (k - 1) < fst1 y m + dim y m then hit1 y m wd + 7 * (k - 1) else 0), .int .i64 (if hit1 y m wd + 7 * (k - 1) < fst1 y m + dim y m then 0 else 22)]) ∧ Below w.heap.size w w' := by
  have hd := dim_ok hm
  have hdb := dim_bd y m
  have hd0 : (dim y m == 0) = false := beq_eq_false_iff_ne.2 (by omega)
  have hf := fst_bd hm
  have hh := hit_bd (w := wd) hm
  have hone := may_one hm
  have hkn : (k != -1) = true := by rw [bne_iff_ne]; omega
  have hkn2 : (k == -1) = false := beq_eq_false_iff_ne.2 (by omega)
  have hgap : num y m 1 + gap (num y m 1) 7 wd = hit1 y m wd := rfl
  have hnum : num y m 1 = fst1 y m := rfl
  have hgapH := Lib.hid (show num y m 1 + gap (num y m 1) 7 wd ≤ 9223372036854775807 by rw [hgap]; omega)
  have hI : I64 (num y m 1) := by unfold I64; rw [hnum]; omega
  have hG := Lib.hid hgap
  have hN := Lib.hid hnum
  clear hgap hnum
  by_cases hc : hit1 y m wd + 7 * (k - 1) < fst1 y m + dim y m
  · rw [if_pos hc, if_pos hc]
    go_enter Tryd.func33, Tryd.ntmps33
    go_wp2_with fail
    refine (gdays_ok _ _ _ ht hm).mono ?_; rintro e w' ⟨rfl, rfl⟩
    go_wp2_with fail
    refine (gday_ok _ _ _ _ ht hone).mono ?_; rintro e w1 ⟨rfl, hb1⟩
    go_wp2_with fail
    refine (next_ok _ _ _ _ (by omega) hI (by omega) n1 (by omega) hgapH.out).mono ?_; rintro e w' ⟨rfl, rfl⟩
    rw [hG.out, hN.out]
    go_wp2
    go_ret2
    exact ⟨rfl, hb1⟩
  · rw [if_neg hc, if_neg hc]
    go_enter Tryd.func33, Tryd.ntmps33
    go_wp2_with fail
    refine (gdays_ok _ _ _ ht hm).mono ?_; rintro e w' ⟨rfl, rfl⟩
    go_wp2_with fail
    refine (gday_ok _ _ _ _ ht hone).mono ?_; rintro e w1 ⟨rfl, hb1⟩
    go_wp2_with fail
    refine (next_ok _ _ _ _ (by omega) hI (by omega) n1 (by omega) hgapH.out).mono ?_; rintro e w' ⟨rfl, rfl⟩
    rw [hG.out, hN.out]
    go_wp2
    go_ret2
    exact ⟨rfl, hb1⟩

theorem gnth_any (y m wd k : Int) (w : World) (ht : Tab w) : Calls Tryd.prog 33 #[.int .i64 y, .int .i64 m, .int .i64 wd, .int .i64 k] w
    fun e w' => e = .returned (.tuple #[.int .i64 (nthV y m wd k).1, .int .i64 (nthV y m wd k).2]) ∧ Below w.heap.size w w' := by
  unfold nthV
  by_cases hm : OkM y m
  · rw [if_pos hm]
    by_cases hn : OkN wd k
    · rw [if_pos hn]
      obtain ⟨n1, n2, n3⟩ := hn
      by_cases hk : k = -1
      · rw [if_pos hk]; subst hk; exact gnth_last y m wd w ht hm n1 n2
      · rw [if_neg hk]
        have := gnth_k y m wd k w ht hm n1 n2 (by omega) (by omega)
        by_cases hc : hit1 y m wd + 7 * (k - 1) < fst1 y m + dim y m
        · rw [if_pos hc, if_pos hc] at this; rw [if_pos hc]; exact this
        · rw [if_neg hc, if_neg hc] at this; rw [if_neg hc]; exact this
    · rw [if_neg hn]; exact gnth_no y m wd k w ht hm hn
  · rw [if_neg hm]; exact gnth_nomonth y m wd k w hm

end Go.Proofs.YtdjfmcomeaijgaaDoor
