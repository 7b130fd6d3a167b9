/- DivsSteps: so many times further on it comes to so many more, and the same is left: the walk. -/
import Derived.Test.YtmfkdfkoopnnpaaA2
import Derived.ProofKit
namespace Go.Proofs.Ytmfkdfkoopnnpaa
open Go.RowKit
set_option linter.unusedVariables false

set_option maxHeartbeats 1000000 in
theorem walk_DivsSteps (a b k : Int) (wa : (Lit.int .i64 a).wf = true) (wb : (Lit.int .i64 b).wf = true) (wk : (Lit.int .i64 k).wf = true) (w : World) :
    Calls Try.prog 7 #[.int .i64 a, .int .i64 b, .int .i64 k] w fun e w' => e = .returned (.bool true) ∧ Grown w w' := by
  clear wa wb wk
  by_cases hin : a < -1099511627776 ∨ 1099511627776 < a ∨ b < 1 ∨ 1048576 < b ∨ k < -1000 ∨ 1000 < k
  · by_cases h1 : a < -1099511627776
    rotate_left
    by_cases h2 : 1099511627776 < a
    rotate_left
    by_cases h3 : b < 1
    rotate_left
    by_cases h4 : 1048576 < b
    rotate_left
    by_cases h5 : k < -1000
    rotate_left
    have h6 : 1000 < k := by omega
    all_goals
      clear hin
      go_enter Try.func7, Try.ntmps7
      go_wp2_with fail
      refine (awake1 _).mono ?_; rintro e w' ⟨rfl, rfl⟩
      go_wp2
      go_ret
      exact ⟨rfl, Grown.refl _⟩
  · have h1 : -1099511627776 ≤ a := by omega
    have h2 : a ≤ 1099511627776 := by omega
    have h3 : 1 ≤ b := by omega
    have h4 : b ≤ 1048576 := by omega
    have h5 : -1000 ≤ k := by omega
    have h6 : k ≤ 1000 := by omega
    clear hin
    have p := prod_bd b k h3 h4 h5 h6
    have m := emod_bd a b h3
    have d := ediv_bd a b h3
    have e1 := Lib.hid (steps_div a b k h3)
    have e2 := Lib.hid (steps_mod a b k)
    have q1 : ((a + k * b) / b == a / b + k) = true := beq_iff_eq.2 e1.out
    have q2 : ((a + k * b) % b == a % b) = true := beq_iff_eq.2 e2.out
    go_enter Try.func7, Try.ntmps7
    go_wp2_with fail
    refine (div_ok _ _ _ h3 (by unfold I64; omega)).mono ?_; rintro e w' ⟨rfl, rfl⟩
    go_wp2_with fail
    refine (mod_ok _ _ _ h3 (by unfold I64; omega) (by omega)).mono ?_; rintro e w' ⟨rfl, rfl⟩
    go_wp2_with fail
    refine (div_ok _ _ _ h3 (by unfold I64; omega)).mono ?_; rintro e w' ⟨rfl, rfl⟩
    go_wp2_with fail
    refine (mod_ok _ _ _ h3 (by unfold I64; omega) (by omega)).mono ?_; rintro e w' ⟨rfl, rfl⟩
    go_wp2_with fail
    refine (awake1 _).mono ?_; rintro e w' ⟨rfl, rfl⟩
    go_wp2
    go_ret
    exact ⟨rfl, Grown.refl _⟩

end Go.Proofs.Ytmfkdfkoopnnpaa
