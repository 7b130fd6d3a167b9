/- DivsCeil: up and down are the same just where nothing is left, else one apart: the walk. -/
import Derived.Test.YtmfkdfkoopnnpaaA2
import Derived.ProofKit
namespace Go.Proofs.Ytmfkdfkoopnnpaa
open Go.RowKit
set_option linter.unusedVariables false

set_option maxHeartbeats 1000000 in
theorem walk_DivsCeil (a b : Int) (wa : (Lit.int .i64 a).wf = true) (wb : (Lit.int .i64 b).wf = true) (w : World) :
    Calls Try.prog 6 #[.int .i64 a, .int .i64 b] w fun e w' => e = .returned (.bool true) ∧ Grown w w' := by
  have ha := i64_of wa
  have hb := (i64_of wb).2
  clear wa wb
  by_cases h : b < 1
  · go_enter Try.func6, Try.ntmps6
    go_wp2_with fail
    refine (div_bad _ _ _ h).mono ?_; rintro e w' ⟨rfl, rfl⟩
    go_wp2_with fail
    refine (mod_bad _ _ _ h).mono ?_; rintro e w' ⟨rfl, rfl⟩
    go_wp2_with fail
    refine (ceil_bad _ _ _ h).mono ?_; rintro e w' ⟨rfl, rfl⟩
    go_wp2_with fail
    refine (awake1 _).mono ?_; rintro e w' ⟨rfl, rfl⟩
    go_wp2
    go_ret
    exact ⟨rfl, Grown.refl _⟩
  · have h : 1 ≤ b := by omega
    have m := emod_bd a b h
    have d := ediv_bd a b h
    have hA := ha
    obtain ⟨a0, a1⟩ := ha
    by_cases hz : a % b = 0
    · have h1 : (a % b == 0) = true := beq_iff_eq.2 hz
      have h2 : (cdiv a b == a / b) = true := beq_iff_eq.2 (cdiv_zero hz)
      clear hz
      go_enter Try.func6, Try.ntmps6
      go_wp2_with fail
      refine (div_ok _ _ _ h hA).mono ?_; rintro e w' ⟨rfl, rfl⟩
      go_wp2_with fail
      refine (mod_ok _ _ _ h hA hb).mono ?_; rintro e w' ⟨rfl, rfl⟩
      go_wp2_with fail
      refine (ceil_ok _ _ _ h hA).mono ?_; rintro e w' ⟨rfl, rfl⟩
      go_wp2_with fail
      refine (awake1 _).mono ?_; rintro e w' ⟨rfl, rfl⟩
      go_wp2
      go_ret
      exact ⟨rfl, Grown.refl _⟩
    · have h1 : (a % b == 0) = false := beq_eq_false_iff_ne.2 hz
      have c := cdiv_bd a b h a0 a1
      have e := cdiv_one hz
      have hp : 0 < a % b := by omega
      have h2 : (wrap64 (cdiv a b - 1) == a / b) = true := by rw [e, w64 (by omega) (by omega)]; exact beq_iff_eq.2 (by omega)
      have h3 : (cdiv a b - 1 == a / b) = true := by rw [e]; exact beq_iff_eq.2 (by omega)
      have h4 : -9223372036854775808 ≤ cdiv a b - 1 := by rw [e]; omega
      clear hz e
      go_enter Try.func6, Try.ntmps6
      go_wp2_with fail
      refine (div_ok _ _ _ h hA).mono ?_; rintro e w' ⟨rfl, rfl⟩
      go_wp2_with fail
      refine (mod_ok _ _ _ h hA hb).mono ?_; rintro e w' ⟨rfl, rfl⟩
      go_wp2_with fail
      refine (ceil_ok _ _ _ h hA).mono ?_; rintro e w' ⟨rfl, rfl⟩
      go_wp2_with fail
      refine (awake1 _).mono ?_; rintro e w' ⟨rfl, rfl⟩
      go_wp2
      go_ret
      exact ⟨rfl, Grown.refl _⟩

end Go.Proofs.Ytmfkdfkoopnnpaa
