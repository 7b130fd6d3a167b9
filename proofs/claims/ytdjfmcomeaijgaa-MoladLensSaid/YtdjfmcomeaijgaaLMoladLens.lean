/- MoladLens: a year has 353 to 355 days, a leap year 383 to 385: the walk. -/
import Derived.Test.YtdjfmcomeaijgaaM2
import Derived.Test.YtdjfmcomeaijgaaM3
namespace Go.Proofs.Ytdjfmcomeaijgaa
open Go.RowKit
set_option linter.unusedVariables false

set_option maxHeartbeats 1000000 in
theorem walk_MoladLens (h : Int) (wh : (Lit.int .i64 h).wf = true) (w : World) :
    Calls Try.prog 5 #[.int .i64 h] w fun e w' => e = .returned (.bool true) ∧ Below w.heap.size w w' := by
  have hI := i64_of wh
  clear wh
  by_cases hy : Yr h
  · have hc := len_cases h (by have := hy.1; omega) (by have := hy.2; omega)
    rcases hc with ⟨hl, hc⟩ | ⟨hl, hc⟩
    · have hc1 : 383 ≤ ylen h := by omega
      have hc2 : ylen h ≤ 385 := by omega
      clear hc
      go_enter Try.func5, Try.ntmps5
      go_wp2_with fail
      refine (len_ok _ _ hy).mono ?_; rintro e w' ⟨rfl, rfl⟩
      go_wp2_with fail
      refine (leap_any _ _ hI).mono ?_; rintro e w' ⟨rfl, rfl⟩
      go_wp2_with fail
      refine (awake3 _).mono ?_; rintro e w' ⟨rfl, rfl⟩
      go_wp2
      go_ret
      exact ⟨rfl, Below.refl _ _⟩
    · have hc1 : 353 ≤ ylen h := by omega
      have hc2 : ylen h ≤ 355 := by omega
      clear hc
      go_enter Try.func5, Try.ntmps5
      go_wp2_with fail
      refine (len_ok _ _ hy).mono ?_; rintro e w' ⟨rfl, rfl⟩
      go_wp2_with fail
      refine (leap_any _ _ hI).mono ?_; rintro e w' ⟨rfl, rfl⟩
      go_wp2_with fail
      refine (awake3 _).mono ?_; rintro e w' ⟨rfl, rfl⟩
      go_wp2
      go_ret
      exact ⟨rfl, Below.refl _ _⟩
  · go_enter Try.func5, Try.ntmps5
    go_wp2_with fail
    refine (len_no _ _ hy).mono ?_; rintro e w' ⟨rfl, rfl⟩
    go_wp2_with fail
    refine (awake3 _).mono ?_; rintro e w' ⟨rfl, rfl⟩
    go_wp2_with fail
    refine (rmay_no _ _ hy).mono ?_; rintro e w' ⟨rfl, rfl⟩
    go_wp2
    go_ret
    exact ⟨rfl, Below.refl _ _⟩

end Go.Proofs.Ytdjfmcomeaijgaa
