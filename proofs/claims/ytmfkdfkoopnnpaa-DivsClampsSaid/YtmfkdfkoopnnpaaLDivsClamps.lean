/- DivsClamps: between two a number stays between them, greater ones stay not less, and what lies there stays as it is: the walk. -/
import Derived.Test.YtmfkdfkoopnnpaaA2
import Derived.ProofKit
namespace Go.Proofs.Ytmfkdfkoopnnpaa
open Go.RowKit
set_option linter.unusedVariables false

theorem near_cases (n lo hi : Int) : (n < lo ∨ hi < lo → near n lo hi = lo) ∧ (lo ≤ n → lo ≤ hi → hi < n → near n lo hi = hi) ∧ (lo ≤ n → n ≤ hi → near n lo hi = n) := by
  unfold near
  refine ⟨fun h => ?_, fun h1 h2 h3 => ?_, fun h1 h2 => ?_⟩
  · by_cases h1 : n < lo
    · rw [if_pos h1]
    · rw [if_neg h1, if_pos (by omega)]
  · rw [if_neg (by omega), if_neg (by omega), if_pos h3]
  · rw [if_neg (by omega), if_neg (by omega), if_neg (by omega)]

set_option maxHeartbeats 1000000 in
theorem walk_DivsClamps (n lo hi o : Int) (w0 : (Lit.int .i64 n).wf = true) (w1 : (Lit.int .i64 lo).wf = true) (w2 : (Lit.int .i64 hi).wf = true) (w3 : (Lit.int .i64 o).wf = true) (w : World) :
    Calls Try.prog 9 #[.agg #[.int .i64 n, .int .i64 lo, .int .i64 hi, .int .i64 o]] w fun e w' => e = .returned (.bool true) ∧ Grown w w' := by
  clear w0 w1 w2 w3
  have cn := near_cases n lo hi
  have co := near_cases o lo hi
  have ca := near_cases (near n lo hi) lo hi
  have f1 : (near (near n lo hi) lo hi == near n lo hi) = true := by
    refine beq_iff_eq.2 ?_
    by_cases h1 : n < lo ∨ hi < lo
    · have e := cn.1 h1; rw [e] at ca ⊢
      by_cases h2 : hi < lo
      · exact ca.1 (.inr h2)
      · exact ca.2.2 (by omega) (by omega)
    · by_cases h2 : hi < n
      · have e := cn.2.1 (by omega) (by omega) h2; rw [e] at ca ⊢; exact ca.2.2 (by omega) (by omega)
      · have e := cn.2.2 (by omega) (by omega); rw [e] at ca ⊢; exact ca.2.2 (by omega) (by omega)
  have f2 : lo ≤ near n lo hi := by
    by_cases h1 : n < lo ∨ hi < lo
    · have e := cn.1 h1; omega
    · by_cases h2 : hi < n
      · have e := cn.2.1 (by omega) (by omega) h2; omega
      · have e := cn.2.2 (by omega) (by omega); omega
  have f3 : hi < lo ∨ near n lo hi ≤ hi := by
    by_cases h1 : n < lo ∨ hi < lo
    · have e := cn.1 h1; omega
    · by_cases h2 : hi < n
      · have e := cn.2.1 (by omega) (by omega) h2; omega
      · have e := cn.2.2 (by omega) (by omega); omega
  have f4 : o < n ∨ (n ≤ o ∧ near n lo hi ≤ near o lo hi) := by
    by_cases h0 : o < n
    · exact .inl h0
    right
    refine ⟨by omega, ?_⟩
    by_cases h1 : n < lo ∨ hi < lo
    · have e := cn.1 h1
      by_cases h3 : o < lo ∨ hi < lo
      · have e2 := co.1 h3; omega
      · by_cases h4 : hi < o
        · have e2 := co.2.1 (by omega) (by omega) h4; omega
        · have e2 := co.2.2 (by omega) (by omega); omega
    · by_cases h2 : hi < n
      · have e := cn.2.1 (by omega) (by omega) h2
        have e2 := co.2.1 (by omega) (by omega) (by omega); omega
      · have e := cn.2.2 (by omega) (by omega)
        by_cases h4 : hi < o
        · have e2 := co.2.1 (by omega) (by omega) h4; omega
        · have e2 := co.2.2 (by omega) (by omega); omega
  have f5 : n < lo ∨ (lo ≤ n ∧ hi < n) ∨ (lo ≤ n ∧ n ≤ hi ∧ (near n lo hi == n) = true) := by
    by_cases h1 : n < lo
    · exact .inl h1
    by_cases h2 : hi < n
    · exact .inr (.inl ⟨by omega, h2⟩)
    exact .inr (.inr ⟨by omega, by omega, beq_iff_eq.2 (cn.2.2 (by omega) (by omega))⟩)
  clear cn co ca
  rcases f3 with f3 | f3 <;> rcases f4 with f4 | ⟨f4, f8⟩ <;> rcases f5 with f5 | ⟨f5, f6⟩ | ⟨f5, f6, f7⟩
  all_goals try (exfalso; omega)
  all_goals
    go_enter Try.func9, Try.ntmps9
    go_wp2_with fail
    refine (clamp_any _ _ _ _).mono ?_; rintro e w' ⟨rfl, rfl⟩
    go_wp2_with fail
    refine (clamp_any _ _ _ _).mono ?_; rintro e w' ⟨rfl, rfl⟩
    go_wp2_with fail
    refine (awake1 _).mono ?_; rintro e w' ⟨rfl, rfl⟩
    go_wp2_with fail
    refine (clamp_any _ _ _ _).mono ?_; rintro e w' ⟨rfl, rfl⟩
    go_wp2
    all_goals go_ret
    refine ⟨?_, by repeat (first | exact Grown.refl _ | apply Grown.drew | apply Grown.alloc)⟩
    first | rfl | (simp; omega)

end Go.Proofs.Ytmfkdfkoopnnpaa
