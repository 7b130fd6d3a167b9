/- MoladNext: a year is as long as the next one begins later, and has as many months as there are more ahead of that: the walk. -/
import Derived.Test.YtdjfmcomeaijgaaM2
import Derived.Test.YtdjfmcomeaijgaaM3
namespace Go.Proofs.Ytdjfmcomeaijgaa
open Go.RowKit
set_option linter.unusedVariables false

set_option maxHeartbeats 1000000 in
theorem walk_MoladNext (h : Int) (wh : (Lit.int .i64 h).wf = true) (w : World) :
    Calls Try.prog 8 #[.int .i64 h] w fun e w' => e = .returned (.bool true) ∧ Below w.heap.size w w' := by
  have hI := i64_of wh
  clear wh
  by_cases h1 : h < 3762
  · go_enter Try.func8, Try.ntmps8
    go_wp2_with fail
    refine (awake3 _).mono ?_; rintro e w' ⟨rfl, rfl⟩
    go_wp2
    go_ret
    exact ⟨rfl, Below.refl _ _⟩
  by_cases h2 : 9999 ≤ h
  · have h3 : 3762 ≤ h := by omega
    go_enter Try.func8, Try.ntmps8
    go_wp2_with fail
    refine (awake3 _).mono ?_; rintro e w' ⟨rfl, rfl⟩
    go_wp2
    go_ret
    exact ⟨rfl, Below.refl _ _⟩
  have h3 : 3762 ≤ h := by omega
  have h4 : h < 9999 := by omega
  clear h1 h2
  have hy : Yr h := ⟨by omega, by omega⟩
  have hy1 : Yr (h + 1) := ⟨by omega, by omega⟩
  have b1 := ny_bd h (by omega) (by omega)
  have b2 := ny_bd (h + 1) (by omega) (by omega)
  have b3 := mon_bd h (by omega) (by omega)
  have e1 : (ny (h + 1) == ny h + ylen h) = true := by rw [beq_iff_eq]; unfold ylen; omega
  have e4 : -1 ≤ ylen h + 3000000000 ∧ ylen h ≤ 3000000000 := by unfold ylen; omega
  have ms := mon_succ h
  by_cases hl : leapB h = true
  · rw [if_pos hl] at ms
    have e2 : (mon (h + 1) == mon h + 13) = true := by rw [beq_iff_eq]; omega
    have hl := Lib.hid hl
    clear ms
    go_enter Try.func8, Try.ntmps8
    go_wp2_with fail
    refine (newyear_ok _ _ hy).mono ?_; rintro e w' ⟨rfl, rfl⟩
    go_wp2_with fail
    refine (newyear_ok _ _ hy1).mono ?_; rintro e w' ⟨rfl, rfl⟩
    go_wp2_with fail
    refine (len_ok _ _ hy).mono ?_; rintro e w' ⟨rfl, rfl⟩
    go_wp2_with fail
    refine (months_ok _ _ hy).mono ?_; rintro e w' ⟨rfl, rfl⟩
    go_wp2_with fail
    refine (months_ok _ _ hy1).mono ?_; rintro e w' ⟨rfl, rfl⟩
    go_wp2_with fail
    refine (leap_any _ _ hI).mono ?_; rintro e w' ⟨rfl, rfl⟩
    rw [hl.out]
    go_wp2_with fail
    refine (awake3 _).mono ?_; rintro e w' ⟨rfl, rfl⟩
    go_wp2
    go_ret
    exact ⟨rfl, Below.refl _ _⟩
  · have hl' : leapB h = false := by simpa using hl
    rw [if_neg hl] at ms
    have e2 : (mon (h + 1) == mon h + 12) = true := by rw [beq_iff_eq]; omega
    have hl := Lib.hid hl'
    clear ms hl'
    go_enter Try.func8, Try.ntmps8
    go_wp2_with fail
    refine (newyear_ok _ _ hy).mono ?_; rintro e w' ⟨rfl, rfl⟩
    go_wp2_with fail
    refine (newyear_ok _ _ hy1).mono ?_; rintro e w' ⟨rfl, rfl⟩
    go_wp2_with fail
    refine (len_ok _ _ hy).mono ?_; rintro e w' ⟨rfl, rfl⟩
    go_wp2_with fail
    refine (months_ok _ _ hy).mono ?_; rintro e w' ⟨rfl, rfl⟩
    go_wp2_with fail
    refine (months_ok _ _ hy1).mono ?_; rintro e w' ⟨rfl, rfl⟩
    go_wp2_with fail
    refine (leap_any _ _ hI).mono ?_; rintro e w' ⟨rfl, rfl⟩
    rw [hl.out]
    go_wp2_with fail
    refine (awake3 _).mono ?_; rintro e w' ⟨rfl, rfl⟩
    go_wp2
    go_ret
    exact ⟨rfl, Below.refl _ _⟩

end Go.Proofs.Ytdjfmcomeaijgaa
