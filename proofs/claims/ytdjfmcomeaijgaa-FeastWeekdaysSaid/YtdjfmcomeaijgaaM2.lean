/- What the functions of chapter 3 return, said of whole numbers: how a year is put off, when it begins, how long it is. -/
import Derived.Test.YtdjfmcomeaijgaaM1
namespace Go.Proofs.Ytdjfmcomeaijgaa
open Go.RowKit
set_option linter.unusedVariables false
set_option linter.unusedSimpArgs false

set_option maxHeartbeats 1000000 in
theorem ydelay_any (h : Int) (w : World) (h1 : 3001 ≤ h) (h2 : h ≤ 10100) :
    Calls Try.prog 62 #[.int .i64 h] w fun e w' => e = .returned (.int .i64 (dly h)) ∧ w = w' := by
  have b := mday_bd h (by omega) h2
  have c := mpart_bd h
  have hI : I64 (mday h) := ⟨by omega, by omega⟩
  go_enter Try.func62, Try.ntmps62
  go_wp2_with fail
  refine (ymoon_any _ _ (by omega) (by omega)).mono ?_; rintro e w' ⟨rfl, rfl⟩
  go_wp2_with fail
  refine (weekday_any _ _ hI).mono ?_; rintro e w' ⟨rfl, rfl⟩
  go_wp2_with (go_at_call 24; refine (leap_any _ _ (by unfold I64; omega)).mono ?_; rintro e w' ⟨rfl, rfl⟩)
  all_goals
    go_ret
    refine ⟨one ?_, rfl⟩
    unfold dly put1 putB offB
    generalize leapB h = l1 at *
    generalize leapB (h - 1) = l2 at *
    generalize mday h = d at *
    generalize mpart h = p at *
    clear hI
    cases l1 <;> cases l2
    all_goals
      simp only [Bool.or_eq_true, Bool.and_eq_true, Bool.not_eq_true', Bool.not_eq_false', decide_eq_true_eq, decide_eq_false_iff_not, beq_iff_eq, beq_eq_false_iff_ne, Bool.not_true, Bool.not_false, Bool.false_eq_true, and_true, and_false, or_false, or_true, false_or, true_and, false_and, not_true_eq_false, not_false_eq_true, not_or, reduceCtorEq, ne_eq] at *
      repeat' split
      all_goals omega

set_option maxHeartbeats 400000 in
theorem yfirst_any (h : Int) (w : World) (h1 : 3001 ≤ h) (h2 : h ≤ 10100) :
    Calls Try.prog 63 #[.int .i64 h] w fun e w' => e = .returned (.int .i64 (ny h)) ∧ w = w' := by
  have b := mday_bd h (by omega) h2
  have c := dly_bd h
  go_enter Try.func63, Try.ntmps63
  go_wp2_with fail
  refine (ymoon_any _ _ (by omega) (by omega)).mono ?_; rintro e w' ⟨rfl, rfl⟩
  go_wp2_with fail
  refine (ydelay_any _ _ (by omega) (by omega)).mono ?_; rintro e w' ⟨rfl, rfl⟩
  go_wp2
  go_ret
  exact ⟨by unfold ny; rfl, rfl⟩

set_option maxHeartbeats 400000 in
theorem ylength_any (h : Int) (w : World) (h1 : 3001 ≤ h) (h2 : h ≤ 10000) :
    Calls Try.prog 64 #[.int .i64 h] w fun e w' => e = .returned (.int .i64 (ylen h)) ∧ w = w' := by
  have b := ny_bd h (by omega) (by omega)
  have c := ny_bd (h + 1) (by omega) (by omega)
  go_enter Try.func64, Try.ntmps64
  go_wp2_with fail
  refine (yfirst_any _ _ (by omega) (by omega)).mono ?_; rintro e w' ⟨rfl, rfl⟩
  go_wp2_with fail
  refine (yfirst_any _ _ (by omega) (by omega)).mono ?_; rintro e w' ⟨rfl, rfl⟩
  go_wp2
  go_ret
  exact ⟨by unfold ylen; rfl, rfl⟩

set_option maxHeartbeats 400000 in
theorem months_no (h : Int) (w : World) (hy : ¬ Yr h) :
    Calls Try.prog 22 #[.int .i64 h] w fun e w' => e = .returned (.tuple #[.int .i64 0, .int .i64 30]) ∧ w = w' := by
  go_enter Try.func22, Try.ntmps22
  go_wp2_with fail
  refine (reckoned_no _ _ _ hy).mono ?_; rintro e w' ⟨rfl, rfl⟩
  go_wp2
  go_ret2
  exact ⟨rfl, rfl⟩

set_option maxHeartbeats 400000 in
theorem delay_no (h : Int) (w : World) (hy : ¬ Yr h) :
    Calls Try.prog 30 #[.int .i64 h] w fun e w' => e = .returned (.tuple #[.int .i64 0, .int .i64 30]) ∧ w = w' := by
  go_enter Try.func30, Try.ntmps30
  go_wp2_with fail
  refine (reckoned_no _ _ _ hy).mono ?_; rintro e w' ⟨rfl, rfl⟩
  go_wp2
  go_ret2
  exact ⟨rfl, rfl⟩

set_option maxHeartbeats 400000 in
theorem delay_ok (h : Int) (w : World) (hy : Yr h) :
    Calls Try.prog 30 #[.int .i64 h] w fun e w' => e = .returned (.tuple #[.int .i64 (dly h), .int .i64 0]) ∧ w = w' := by
  go_enter Try.func30, Try.ntmps30
  go_wp2_with fail
  refine (reckoned_ok _ _ _ _ (fun _ _ => by kernel_rfl) hy (ydelay_any _ _ (by have := hy.1; omega) (by have := hy.2; omega))).mono ?_; rintro e w' ⟨rfl, rfl⟩
  go_wp2
  go_ret2
  exact ⟨rfl, rfl⟩

set_option maxHeartbeats 400000 in
theorem newyear_no (h : Int) (w : World) (hy : ¬ Yr h) :
    Calls Try.prog 31 #[.int .i64 h] w fun e w' => e = .returned (.tuple #[.int .i64 0, .int .i64 30]) ∧ w = w' := by
  go_enter Try.func31, Try.ntmps31
  go_wp2_with fail
  refine (reckoned_no _ _ _ hy).mono ?_; rintro e w' ⟨rfl, rfl⟩
  go_wp2
  go_ret2
  exact ⟨rfl, rfl⟩

set_option maxHeartbeats 400000 in
theorem newyear_ok (h : Int) (w : World) (hy : Yr h) :
    Calls Try.prog 31 #[.int .i64 h] w fun e w' => e = .returned (.tuple #[.int .i64 (ny h), .int .i64 0]) ∧ w = w' := by
  go_enter Try.func31, Try.ntmps31
  go_wp2_with fail
  refine (reckoned_ok _ _ _ _ (fun _ _ => by kernel_rfl) hy (yfirst_any _ _ (by have := hy.1; omega) (by have := hy.2; omega))).mono ?_; rintro e w' ⟨rfl, rfl⟩
  go_wp2
  go_ret2
  exact ⟨rfl, rfl⟩

set_option maxHeartbeats 400000 in
theorem len_no (h : Int) (w : World) (hy : ¬ Yr h) :
    Calls Try.prog 32 #[.int .i64 h] w fun e w' => e = .returned (.tuple #[.int .i64 0, .int .i64 30]) ∧ w = w' := by
  go_enter Try.func32, Try.ntmps32
  go_wp2_with fail
  refine (reckoned_no _ _ _ hy).mono ?_; rintro e w' ⟨rfl, rfl⟩
  go_wp2
  go_ret2
  exact ⟨rfl, rfl⟩

set_option maxHeartbeats 400000 in
theorem len_ok (h : Int) (w : World) (hy : Yr h) :
    Calls Try.prog 32 #[.int .i64 h] w fun e w' => e = .returned (.tuple #[.int .i64 (ylen h), .int .i64 0]) ∧ w = w' := by
  go_enter Try.func32, Try.ntmps32
  go_wp2_with fail
  refine (reckoned_ok _ _ _ _ (fun _ _ => by kernel_rfl) hy (ylength_any _ _ (by have := hy.1; omega) (by have := hy.2; omega))).mono ?_; rintro e w' ⟨rfl, rfl⟩
  go_wp2
  go_ret2
  exact ⟨rfl, rfl⟩

set_option maxHeartbeats 400000 in
theorem molad_no (h : Int) (w : World) (hy : ¬ Yr h) :
    Calls Try.prog 23 #[.int .i64 h] w fun e w' => e = .returned (.tuple #[.int .i64 0, .int .i64 0, .int .i64 30]) ∧ w = w' := by
  unfold Yr at hy
  by_cases h1 : h < 3762
  · clear hy
    go_enter Try.func23, Try.ntmps23
    go_wp2_with fail
    go_ret3
    exact ⟨rfl, rfl⟩
  · have h2 : 9999 < h := by omega
    clear hy
    go_enter Try.func23, Try.ntmps23
    go_wp2_with fail
    go_ret3
    exact ⟨rfl, rfl⟩

set_option maxHeartbeats 1000000 in
theorem awake3 (w : World) : Calls Try.prog 27 #[] w fun e w' => e = .returned (.bool true) ∧ w = w' := by
  have y : Yr 5784 := by unfold Yr; omega
  have e1 : mon 5784 = 71526 := by decide +kernel
  have e2 : mday 5784 = 738778 := by decide +kernel
  have e3 : mpart 5784 = 12762 := by decide +kernel
  have e4 : dly 5784 = 1 := by decide +kernel
  have e5 : ny 5784 = 738779 := by decide +kernel
  have e6 : ylen 5784 = 383 := by decide +kernel
  have e7 : leapB 5784 = true := by decide +kernel
  go_enter Try.func27, Try.ntmps27
  go_wp2_with fail
  refine (months_ok _ _ y).mono ?_; rintro e w' ⟨rfl, rfl⟩
  go_wp2_with fail
  refine (molad_ok _ _ y).mono ?_; rintro e w' ⟨rfl, rfl⟩
  go_wp2_with fail
  refine (delay_ok _ _ y).mono ?_; rintro e w' ⟨rfl, rfl⟩
  go_wp2_with fail
  refine (newyear_ok _ _ y).mono ?_; rintro e w' ⟨rfl, rfl⟩
  go_wp2_with fail
  refine (len_ok _ _ y).mono ?_; rintro e w' ⟨rfl, rfl⟩
  go_wp2_with fail
  refine (leap_any _ _ (by unfold I64; omega)).mono ?_; rintro e w' ⟨rfl, rfl⟩
  go_wp2
  go_ret
  exact ⟨rfl, rfl⟩

end Go.Proofs.Ytdjfmcomeaijgaa
