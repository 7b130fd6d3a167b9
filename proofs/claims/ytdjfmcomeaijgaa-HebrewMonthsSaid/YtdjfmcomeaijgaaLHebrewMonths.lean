/- HebrewMonths: how many days any month has is the document's: the walk. -/
import Derived.Test.YtdjfmcomeaijgaaH7
namespace Go.Proofs.Ytdjfmcomeaijgaa
open Go.RowKit
set_option linter.unusedVariables false
set_option linter.unusedSimpArgs false

set_option maxHeartbeats 1000000 in
theorem walk_HebrewMonths (h m : Int) (wh : (Lit.int .i64 h).wf = true) (wm : (Lit.int .i64 m).wf = true) (w : World) : Calls Try.prog 9 #[.int .i64 h, .int .i64 m] w fun e w' => e = .returned (.bool true) ∧ Below w.heap.size w w' := by
  clear wh wm
  go_enter Try.func9, Try.ntmps9
  go_wp2_with fail
  refine (awake4 _).mono ?_; rintro e w1 ⟨rfl, hb1⟩
  go_wp2_with fail
  refine (hdays_any _ _ _).mono ?_; rintro e w' ⟨rfl, rfl⟩
  go_wp2_with fail
  refine (rhdays_any _ _ _).mono ?_; rintro e w2 ⟨rfl, hb2⟩
  have hB := Lib.hid (below_two hb1 hb2)
  clear hb1 hb2
  go_wp2
  go_ret
  exact ⟨rfl, hB.out⟩

end Go.Proofs.Ytdjfmcomeaijgaa
