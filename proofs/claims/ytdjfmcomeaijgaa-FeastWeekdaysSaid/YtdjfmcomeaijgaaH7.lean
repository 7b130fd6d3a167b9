/- The example of chapter 4. -/
import Derived.Test.YtdjfmcomeaijgaaH4
import Derived.Test.YtdjfmcomeaijgaaH6
namespace Go.Proofs.Ytdjfmcomeaijgaa
open Go.RowKit
set_option linter.unusedVariables false
set_option linter.unusedSimpArgs false

theorem hof_at {n h m d : Int} (w : World) (c : HMay h m d) (e : hnum h m d = n) :
    Calls Try.prog 43 #[.int .i64 n] w fun e w' => e = .returned (.tuple #[.agg #[.int .i64 h, .int .i64 m, .int .i64 d], .int .i64 0]) ∧ Below w.heap.size w w' := by
  have := hof_ok h m d w c
  rwa [e] at this

set_option maxHeartbeats 1000000 in
theorem awake4 (w : World) : Calls Try.prog 37 #[] w fun e w' => e = .returned (.bool true) ∧ Below w.heap.size w w' := by
  have m1 : HMay 5784 8 15 := by decide +kernel
  have m2 : HMay 5784 1 1 := by decide +kernel
  have e1 := Lib.hid (show hnum 5784 8 15 = 738999 by decide +kernel)
  have e2 := Lib.hid (show hnum 5784 1 1 = 738779 by decide +kernel)
  have e3 := Lib.hid (show hdim 5784 6 = 30 by decide +kernel)
  go_enter Try.func37, Try.ntmps37
  go_wp2_with fail
  refine (hday_ok _ _ _ _ m1).mono ?_; rintro e w1 ⟨rfl, hb1⟩
  rw [e1.out]
  go_wp2_with fail
  refine (hof_at _ m2 e2.out).mono ?_; rintro e w2 ⟨rfl, hb2⟩
  have hB := (below_two hb1 hb2)
  have hB := Lib.hid (hB.alloc hB.size (.cells #[.int .i64 5784, .int .i64 1, .int .i64 1] 36))
  clear hb1 hb2
  go_wp2_with fail
  refine (hdays_any _ _ _).mono ?_; rintro e w' ⟨rfl, rfl⟩
  rw [e3.out]
  go_wp2
  go_ret
  exact ⟨rfl, hB.out⟩

end Go.Proofs.Ytdjfmcomeaijgaa
