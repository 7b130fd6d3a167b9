/- MoladStarts: no year begins on a Sunday, a Wednesday or a Friday; it begins on its moon's day, or one or two days later: the walk. -/
import Derived.Test.YtdjfmcomeaijgaaM2
import Derived.Test.YtdjfmcomeaijgaaM3
namespace Go.Proofs.Ytdjfmcomeaijgaa
open Go.RowKit
set_option linter.unusedVariables false

set_option maxHeartbeats 1000000 in
theorem walk_MoladStarts (h : Int) (wh : (Lit.int .i64 h).wf = true) (w : World) :
    Calls Try.prog 6 #[.int .i64 h] w fun e w' => e = .returned (.bool true) ∧ Below w.heap.size w w' := by
  have hI := i64_of wh
  clear wh
  by_cases hy : Yr h
  · have b := ny_bd h (by have := hy.1; omega) (by have := hy.2; omega)
    have b2 := mday_bd h (by have := hy.1; omega) (by have := hy.2; omega)
    have c := mpart_bd h
    have d := dly_bd h
    have hw := ny_week h
    unfold offB at hw
    simp only [Bool.or_eq_false_iff, decide_eq_false_iff_not] at hw
    have k0 : (ny h % 7 == 0) = false := beq_eq_false_iff_ne.2 hw.1.1
    have k3 : (ny h % 7 == 3) = false := beq_eq_false_iff_ne.2 hw.1.2
    have k5 : (ny h % 7 == 5) = false := beq_eq_false_iff_ne.2 hw.2
    have n0 : (ny h % 7 != 0) = true := by rw [bne_iff_ne]; exact hw.1.1
    have n3 : (ny h % 7 != 3) = true := by rw [bne_iff_ne]; exact hw.1.2
    have n5 : (ny h % 7 != 5) = true := by rw [bne_iff_ne]; exact hw.2
    have hs : (ny h == mday h + dly h) = true := by rw [beq_iff_eq]; rfl
    have hl : mpart h < 19440 ∨ (19440 ≤ mpart h ∧ 0 < dly h) := by
      by_cases hm : 19440 ≤ mpart h
      · exact .inr ⟨hm, dly_late h hm⟩
      · exact .inl (by omega)
    clear hw
    rcases hl with hl | ⟨hl, hl2⟩
    all_goals
      go_enter Try.func6, Try.ntmps6
      go_wp2_with fail
      refine (newyear_ok _ _ hy).mono ?_; rintro e w' ⟨rfl, rfl⟩
      go_wp2_with fail
      refine (molad_ok _ _ hy).mono ?_; rintro e w' ⟨rfl, rfl⟩
      go_wp2_with fail
      refine (delay_ok _ _ hy).mono ?_; rintro e w' ⟨rfl, rfl⟩
      go_wp2_with fail
      refine (weekday_any _ _ (by unfold I64; omega)).mono ?_; rintro e w' ⟨rfl, rfl⟩
      go_wp2_with fail
      refine (awake3 _).mono ?_; rintro e w' ⟨rfl, rfl⟩
      go_wp2
      go_ret
      refine ⟨?_, Below.refl _ _⟩
      first | rfl | (simp; omega)
  · go_enter Try.func6, Try.ntmps6
    go_wp2_with fail
    refine (newyear_no _ _ hy).mono ?_; rintro e w' ⟨rfl, rfl⟩
    go_wp2_with fail
    refine (molad_no _ _ hy).mono ?_; rintro e w' ⟨rfl, rfl⟩
    go_wp2_with fail
    refine (delay_no _ _ hy).mono ?_; rintro e w' ⟨rfl, rfl⟩
    go_wp2_with fail
    refine (awake3 _).mono ?_; rintro e w' ⟨rfl, rfl⟩
    go_wp2
    go_ret
    exact ⟨rfl, Below.refl _ _⟩

end Go.Proofs.Ytdjfmcomeaijgaa
