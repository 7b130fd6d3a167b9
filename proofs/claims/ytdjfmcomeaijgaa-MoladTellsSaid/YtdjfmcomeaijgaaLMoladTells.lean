/- MoladTells: leap years, months ahead, and any year's moon are the document's: the walk. -/
import Derived.Test.YtdjfmcomeaijgaaM2
import Derived.Test.YtdjfmcomeaijgaaM3
namespace Go.Proofs.Ytdjfmcomeaijgaa
open Go.RowKit
set_option linter.unusedVariables false

set_option maxHeartbeats 1000000 in
theorem walk_MoladTells (h : Int) (wh : (Lit.int .i64 h).wf = true) (w : World) :
    Calls Try.prog 3 #[.int .i64 h] w fun e w' => e = .returned (.bool true) ∧ Below w.heap.size w w' := by
  have hI := i64_of wh
  clear wh
  by_cases hy : Yr h
  · go_enter Try.func3, Try.ntmps3
    go_wp2_with fail
    refine (months_ok _ _ hy).mono ?_; rintro e w' ⟨rfl, rfl⟩
    go_wp2_with fail
    refine (molad_ok _ _ hy).mono ?_; rintro e w' ⟨rfl, rfl⟩
    go_wp2_with fail
    refine (leap_any _ _ hI).mono ?_; rintro e w' ⟨rfl, rfl⟩
    go_wp2_with fail
    refine (rleap_any _ _ hI).mono ?_; rintro e w' ⟨rfl, rfl⟩
    go_wp2_with fail
    refine (rmay_yes _ _ hy).mono ?_; rintro e w' ⟨rfl, rfl⟩
    go_wp2_with fail
    refine (rmolad_any _ _ (by have := hy.1; omega) (by have := hy.2; omega)).mono ?_; rintro e w1 ⟨rfl, hb1⟩
    have hz := hb1.size
    go_wp2_with fail
    refine (awake3 _).mono ?_; rintro e w' ⟨rfl, rfl⟩
    go_wp2_with fail
    refine (rmonths_any _ _ (by have := hy.1; omega) (by have := hy.2; omega)).mono ?_; rintro e w' ⟨rfl, rfl⟩
    go_wp2
    go_ret
    exact ⟨rfl, hb1.alloc hz _⟩
  · go_enter Try.func3, Try.ntmps3
    go_wp2_with fail
    refine (months_no _ _ hy).mono ?_; rintro e w' ⟨rfl, rfl⟩
    go_wp2_with fail
    refine (molad_no _ _ hy).mono ?_; rintro e w' ⟨rfl, rfl⟩
    go_wp2_with fail
    refine (leap_any _ _ hI).mono ?_; rintro e w' ⟨rfl, rfl⟩
    go_wp2_with fail
    refine (rleap_any _ _ hI).mono ?_; rintro e w' ⟨rfl, rfl⟩
    go_wp2_with fail
    refine (rmay_no _ _ hy).mono ?_; rintro e w' ⟨rfl, rfl⟩
    go_wp2_with fail
    refine (awake3 _).mono ?_; rintro e w' ⟨rfl, rfl⟩
    go_wp2
    go_ret
    exact ⟨rfl, Below.refl _ _⟩

end Go.Proofs.Ytdjfmcomeaijgaa
