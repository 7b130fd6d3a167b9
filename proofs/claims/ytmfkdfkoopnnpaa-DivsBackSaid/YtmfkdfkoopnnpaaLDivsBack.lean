/- DivsBack: what is divided is what it came to, times what it was divided by, and what is left: the walk. -/
import Derived.Test.YtmfkdfkoopnnpaaA2
import Derived.ProofKit
namespace Go.Proofs.Ytmfkdfkoopnnpaa
open Go.RowKit
set_option linter.unusedVariables false

set_option maxHeartbeats 1000000 in
theorem walk_DivsBack (a b : Int) (wa : (Lit.int .i64 a).wf = true) (wb : (Lit.int .i64 b).wf = true) (w : World) :
    Calls Try.prog 5 #[.int .i64 a, .int .i64 b] w fun e w' => e = .returned (.bool true) ∧ Grown w w' := by
  have ha := i64_of wa
  have hb := (i64_of wb).2
  clear wa wb
  by_cases h : b < 1
  · go_enter Try.func5, Try.ntmps5
    go_wp2_with fail
    refine (div_bad _ _ _ h).mono ?_; rintro e w' ⟨rfl, rfl⟩
    go_wp2_with fail
    refine (mod_bad _ _ _ h).mono ?_; rintro e w' ⟨rfl, rfl⟩
    go_wp2_with fail
    refine (awake1 _).mono ?_; rintro e w' ⟨rfl, rfl⟩
    go_wp2
    go_ret
    exact ⟨rfl, Grown.refl _⟩
  · have h : 1 ≤ b := by omega
    have m := emod_bd a b h
    have hback : (wrap64 (wrap64 (a / b * b) + a % b) == a) = true := beq_iff_eq.2 (back_wrap a b h ha.1 ha.2)
    go_enter Try.func5, Try.ntmps5
    go_wp2_with fail
    refine (div_ok _ _ _ h ha).mono ?_; rintro e w' ⟨rfl, rfl⟩
    go_wp2_with fail
    refine (mod_ok _ _ _ h ha hb).mono ?_; rintro e w' ⟨rfl, rfl⟩
    go_wp2_with fail
    refine (awake1 _).mono ?_; rintro e w' ⟨rfl, rfl⟩
    go_wp2
    go_ret
    exact ⟨rfl, Grown.refl _⟩

end Go.Proofs.Ytmfkdfkoopnnpaa
