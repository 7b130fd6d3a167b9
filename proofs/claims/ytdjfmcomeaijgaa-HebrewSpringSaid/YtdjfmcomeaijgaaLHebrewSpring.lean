/- HebrewSpring: from 15 Nisan to the next New Year there are 163 days: the walk. -/
import Derived.Test.YtdjfmcomeaijgaaH7
import Derived.Test.YtdjfmcomeaijgaaH8
namespace Go.Proofs.Ytdjfmcomeaijgaa
open Go.RowKit
set_option linter.unusedVariables false
set_option linter.unusedSimpArgs false

set_option maxHeartbeats 1000000 in
theorem walk_HebrewSpring (h : Int) (wh : (Lit.int .i64 h).wf = true) (w : World) : Calls Try.prog 14 #[.int .i64 h] w fun e w' => e = .returned (.bool true) ∧ Below w.heap.size w w' := by
  clear wh
  by_cases hy : Yr h
  · have hy1 := hy.1
    have hy2 := hy.2
    have nb := ny_bd h (by omega) (by omega)
    have lb := ylen_bd hy
    have m1 : HMay h 8 15 := ⟨by omega, by rw [(hdim_0 hy).2.2.2.2.2.2.2.1]; omega⟩
    have m2 : HMay h 1 1 := ⟨by omega, by rw [(hdim_0 hy).1]; omega⟩
    have c7 := hcum_7 hy
    have E1 := Lib.hid (show hnum h 8 15 = ny h + ylen h - 163 by unfold hnum; rw [show (8 : Int).toNat - 1 = 7 from rfl, c7]; omega)
    have E2 := Lib.hid (show hnum h 1 1 = ny h by unfold hnum; rw [show (1 : Int).toNat - 1 = 0 from rfl]; simp only [hcum]; omega)
    clear c7
    go_enter Try.func14, Try.ntmps14
    go_wp2_with fail
    refine (hday_ok _ _ _ _ m1).mono ?_; rintro e w1 ⟨rfl, hb1⟩
    rw [E1.out]
    go_wp2_with fail
    refine (newyear_ok _ _ hy).mono ?_; rintro e w' ⟨rfl, rfl⟩
    go_wp2_with fail
    refine (len_ok _ _ hy).mono ?_; rintro e w' ⟨rfl, rfl⟩
    go_wp2_with fail
    refine (hday_ok _ _ _ _ m2).mono ?_; rintro e w2 ⟨rfl, hb2⟩
    rw [E2.out]
    go_wp2_with fail
    refine (awake4 _).mono ?_; rintro e w3 ⟨rfl, hb3⟩
    have hB := Lib.hid (below_two (below_two hb1 hb2) hb3)
    clear hb1 hb2 hb3
    have hz : (ny h + ylen h - (ny h + ylen h - 163) == 163) = true := by rw [beq_iff_eq]; omega
    go_wp2
    go_ret
    exact ⟨rfl, hB.out⟩
  · have m1 : ¬ HMay h 8 15 := by
      intro c; rw [HMay, hdim_no (.inl hy)] at c; omega
    go_enter Try.func14, Try.ntmps14
    go_wp2_with fail
    refine (hday_no _ _ _ _ m1).mono ?_; rintro e w1 ⟨rfl, hb1⟩
    go_wp2_with fail
    refine (newyear_no _ _ hy).mono ?_; rintro e w' ⟨rfl, rfl⟩
    go_wp2_with fail
    refine (len_no _ _ hy).mono ?_; rintro e w' ⟨rfl, rfl⟩
    go_wp2_with fail
    refine (awake4 _).mono ?_; rintro e w2 ⟨rfl, hb2⟩
    have hB := Lib.hid (below_two hb1 hb2)
    clear hb1 hb2
    go_wp2
    go_ret
    exact ⟨rfl, hB.out⟩

end Go.Proofs.Ytdjfmcomeaijgaa
