/- DivsNexts: the next number of a rest, and the nearest number, are the document's: the walk. -/
import Derived.Test.YtmfkdfkoopnnpaaA2
import Derived.ProofKit
namespace Go.Proofs.Ytmfkdfkoopnnpaa
open Go.RowKit
set_option linter.unusedVariables false

set_option maxHeartbeats 1000000 in
theorem walk_DivsNexts (a b r : Int) (wa : (Lit.int .i64 a).wf = true) (wb : (Lit.int .i64 b).wf = true) (wr : (Lit.int .i64 r).wf = true) (w : World) :
    Calls Try.prog 4 #[.int .i64 a, .int .i64 b, .int .i64 r] w fun e w' => e = .returned (.bool true) ∧ Grown w w' := by
  have ha := i64_of wa
  have hb := (i64_of wb).2
  clear wa wb wr
  by_cases h : b < 1
  · go_enter Try.func4, Try.ntmps4
    go_wp2_with fail
    refine (next_by _ _ _ _ h).mono ?_; rintro e w' ⟨rfl, rfl⟩
    go_wp2_with fail
    refine (rnext_by _ _ _ _ h).mono ?_; rintro e w' ⟨rfl, rfl⟩
    go_wp2_with fail
    refine (awake1 _).mono ?_; rintro e w' ⟨rfl, rfl⟩
    go_wp2_with fail
    refine (clamp_any _ _ _ _).mono ?_; rintro e w' ⟨rfl, rfl⟩
    go_wp2_with fail
    refine (rclamp_any _ _ _ _).mono ?_; rintro e w' ⟨rfl, rfl⟩
    go_wp2
    go_ret
    exact ⟨rfl, Grown.refl _⟩
  · have h : 1 ≤ b := by omega
    by_cases hr : r < 0 ∨ b ≤ r
    · have hr := Lib.hid hr
      go_enter Try.func4, Try.ntmps4
      go_wp2_with fail
      refine (next_rest _ _ _ _ h ha hb hr.out).mono ?_; rintro e w' ⟨rfl, rfl⟩
      go_wp2_with fail
      refine (rnext_rest _ _ _ _ h ha hb hr.out).mono ?_; rintro e w' ⟨rfl, rfl⟩
      go_wp2_with fail
      refine (awake1 _).mono ?_; rintro e w' ⟨rfl, rfl⟩
      go_wp2_with fail
      refine (clamp_any _ _ _ _).mono ?_; rintro e w' ⟨rfl, rfl⟩
      go_wp2_with fail
      refine (rclamp_any _ _ _ _).mono ?_; rintro e w' ⟨rfl, rfl⟩
      go_wp2
      go_ret
      exact ⟨rfl, Grown.refl _⟩
    · have h0 : 0 ≤ r := by omega
      have h1 : r < b := by omega
      clear hr
      by_cases hg : a + gap a b r ≤ 9223372036854775807
      · have hg := Lib.hid hg
        go_enter Try.func4, Try.ntmps4
        go_wp2_with fail
        refine (next_ok _ _ _ _ h ha hb h0 h1 hg.out).mono ?_; rintro e w' ⟨rfl, rfl⟩
        go_wp2_with fail
        refine (rnext_ok _ _ _ _ h ha hb h0 h1 hg.out).mono ?_; rintro e w' ⟨rfl, rfl⟩
        go_wp2_with fail
        refine (awake1 _).mono ?_; rintro e w' ⟨rfl, rfl⟩
        go_wp2_with fail
        refine (clamp_any _ _ _ _).mono ?_; rintro e w' ⟨rfl, rfl⟩
        go_wp2_with fail
        refine (rclamp_any _ _ _ _).mono ?_; rintro e w' ⟨rfl, rfl⟩
        go_wp2
        go_ret
        exact ⟨rfl, Grown.refl _⟩
      · have hg0 : 9223372036854775807 < a + gap a b r := by omega
        have hg1 := Lib.hid hg0
        clear hg hg0
        have hg := hg1
        clear hg1
        go_enter Try.func4, Try.ntmps4
        go_wp2_with fail
        refine (next_great _ _ _ _ h ha hb h0 h1 hg.out).mono ?_; rintro e w' ⟨rfl, rfl⟩
        go_wp2_with fail
        refine (rnext_great _ _ _ _ h ha hb h0 h1 hg.out).mono ?_; rintro e w' ⟨rfl, rfl⟩
        go_wp2_with fail
        refine (awake1 _).mono ?_; rintro e w' ⟨rfl, rfl⟩
        go_wp2_with fail
        refine (clamp_any _ _ _ _).mono ?_; rintro e w' ⟨rfl, rfl⟩
        go_wp2_with fail
        refine (rclamp_any _ _ _ _).mono ?_; rintro e w' ⟨rfl, rfl⟩
        go_wp2
        go_ret
        exact ⟨rfl, Grown.refl _⟩

end Go.Proofs.Ytmfkdfkoopnnpaa
