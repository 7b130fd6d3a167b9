/- DivsFirst: the next number of a rest has that rest, and is less than one turn away; from itself on it is itself: the walk. -/
import Derived.Test.YtmfkdfkoopnnpaaA2
import Derived.ProofKit
namespace Go.Proofs.Ytmfkdfkoopnnpaa
open Go.RowKit
set_option linter.unusedVariables false

set_option maxHeartbeats 1000000 in
theorem walk_DivsFirst (a b r : Int) (wa : (Lit.int .i64 a).wf = true) (wb : (Lit.int .i64 b).wf = true) (wr : (Lit.int .i64 r).wf = true) (w : World) :
    Calls Try.prog 8 #[.int .i64 a, .int .i64 b, .int .i64 r] w fun e w' => e = .returned (.bool true) ∧ Grown w w' := by
  have ha := i64_of wa
  have hb := (i64_of wb).2
  clear wa wb wr
  by_cases h : b < 1
  · go_enter Try.func8, Try.ntmps8
    go_wp2_with fail
    refine (next_by _ _ _ _ h).mono ?_; rintro e w' ⟨rfl, rfl⟩
    go_wp2_with fail
    refine (awake1 _).mono ?_; rintro e w' ⟨rfl, rfl⟩
    go_wp2
    go_ret
    exact ⟨rfl, Grown.refl _⟩
  · have h : 1 ≤ b := by omega
    by_cases hr : r < 0
    · go_enter Try.func8, Try.ntmps8
      go_wp2_with fail
      refine (next_rest _ _ _ _ h ha hb (.inl hr)).mono ?_; rintro e w' ⟨rfl, rfl⟩
      go_wp2_with fail
      refine (awake1 _).mono ?_; rintro e w' ⟨rfl, rfl⟩
      go_wp2
      go_ret
      exact ⟨rfl, Grown.refl _⟩
    · by_cases hr2 : b ≤ r
      · go_enter Try.func8, Try.ntmps8
        go_wp2_with fail
        refine (next_rest _ _ _ _ h ha hb (.inr hr2)).mono ?_; rintro e w' ⟨rfl, rfl⟩
        go_wp2_with fail
        refine (awake1 _).mono ?_; rintro e w' ⟨rfl, rfl⟩
        go_wp2
        go_ret
        exact ⟨rfl, Grown.refl _⟩
      · have h0 : 0 ≤ r := by omega
        have h1 : r < b := by omega
        clear hr hr2
        have g := gap_bd a b r h
        by_cases hg : a + gap a b r ≤ 9223372036854775807
        · have hA := ha
          obtain ⟨a0, a1⟩ := ha
          have hI : I64 (a + gap a b r) := ⟨by omega, hg⟩
          have hm := gap_mod a b r h0 h1
          have hz := gap_self (a + gap a b r) b r hm
          have hm1 : ((a + gap a b r) % b == r) = true := beq_iff_eq.2 hm
          have hz0 : a + gap a b r + gap (a + gap a b r) b r = a + gap a b r := by rw [hz]; omega
          have hz1 : (a + gap a b r + gap (a + gap a b r) b r == a + gap a b r) = true := beq_iff_eq.2 hz0
          have hz2 : a + gap a b r + gap (a + gap a b r) b r ≤ 9223372036854775807 := by rw [hz0]; exact hg
          have hz3 := Lib.hid hz2
          clear hm hz hz0 hz2
          by_cases hn : a < 0
          all_goals
            go_enter Try.func8, Try.ntmps8
            go_wp2_with fail
            refine (next_ok _ _ _ _ h hA hb h0 h1 hg).mono ?_; rintro e w' ⟨rfl, rfl⟩
            go_wp2_with fail
            refine (mod_ok _ _ _ h hI hb).mono ?_; rintro e w' ⟨rfl, rfl⟩
            go_wp2_with fail
            refine (next_ok _ _ _ _ h hI hb h0 h1 hz3.out).mono ?_; rintro e w' ⟨rfl, rfl⟩
            go_wp2_with fail
            refine (awake1 _).mono ?_; rintro e w' ⟨rfl, rfl⟩
            go_wp2
            go_ret
            refine ⟨?_, Grown.refl _⟩
            first | rfl | (simp; omega)
        · have hp : 0 < a := by omega
          go_enter Try.func8, Try.ntmps8
          go_wp2_with fail
          refine (next_great _ _ _ _ h ha hb h0 h1 (by omega)).mono ?_; rintro e w' ⟨rfl, rfl⟩
          go_wp2_with fail
          refine (awake1 _).mono ?_; rintro e w' ⟨rfl, rfl⟩
          go_wp2
          go_ret
          exact ⟨rfl, Grown.refl _⟩

end Go.Proofs.Ytmfkdfkoopnnpaa
