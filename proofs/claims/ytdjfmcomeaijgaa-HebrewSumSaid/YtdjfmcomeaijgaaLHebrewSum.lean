/- HebrewSum: a year's months have as many days as the year: the walk. -/
import Derived.Test.YtdjfmcomeaijgaaH7
import Derived.Test.YtdjfmcomeaijgaaH8
namespace Go.Proofs.Ytdjfmcomeaijgaa
open Go.RowKit
set_option linter.unusedVariables false
set_option linter.unusedSimpArgs false

set_option maxHeartbeats 2000000 in
theorem walk_HebrewSum (h : Int) (wh : (Lit.int .i64 h).wf = true) (w : World) : Calls Try.prog 13 #[.int .i64 h] w fun e w' => e = .returned (.bool true) ∧ Below w.heap.size w w' := by
  have hI := i64_of wh
  clear wh
  go_enter Try.func13, Try.ntmps13
  go_wp2_with fail
  go_loopw [3, 4, 5] (fun n k m wr => ∃ M : Int, 0 ≤ M ∧ M ≤ 15 ∧ m = .int .i64 M ∧ n = .int .i64 (hcum h (M.toNat - 1)) ∧ k = .int .i64 (hcnt h (M.toNat - 1)) ∧ w = wr) (fun _ _ m _ => (15 - intOf m).toNat)
  case atStart => exact ⟨0, by omega, by omega, rfl, rfl, rfl, rfl⟩
  case round =>
    obtain ⟨M, M0, M1, rfl, rfl, rfl, rfl⟩ := hrel
    have ca := hcum_all h (M.toNat - 1)
    have cb := hcnt_bd h (M.toNat - 1)
    by_cases hlt : M ≤ 14
    · have s1 := Lib.hid (hcum_step0 h M M0)
      have s2 := Lib.hid (hcnt_step h M M0)
      rcases hdim_bd h M with e | e | e
      all_goals
        have E := Lib.hid e
        clear e
        go_wp2_with fail
        refine (hdays_any _ _ _).mono ?_; rintro e w' ⟨rfl, rfl⟩
        rw [E.out]
        go_wp2
        go_round
        case rel => exact ⟨M + 1, by omega, by omega, by go_num, by rw [s1.out, E.out] <;> go_num, by rw [s2.out, E.out] <;> simp, trivial⟩
        case measure => simp [intOf]; omega
    · have hM : M = 15 := by omega
      subst hM
      have e15 : (15 : Int).toNat - 1 = 14 := rfl
      rw [e15]
      by_cases hy : Yr h
      · have C1 := Lib.hid (hcum_14 hy)
        have C2 := Lib.hid (hcnt_14 hy)
        have lb := ylen_bd hy
        cases hl : leapB h
        all_goals
          have HL := Lib.hid hl
          have C3 := Lib.hid (C2.out.trans (by rw [hl]))
          clear hl
          rw [C1.out, C3.out]
          go_wp2_with fail
          refine (len_ok _ _ hy).mono ?_; rintro e w' ⟨rfl, rfl⟩
          go_wp2_with fail
          refine (awake4 _).mono ?_; rintro e w1 ⟨rfl, hb1⟩
          go_wp2_with fail
          refine (leap_any _ _ hI).mono ?_; rintro e w' ⟨rfl, rfl⟩
          rw [HL.out]
          go_wp2
          go_ret
          exact ⟨rfl, hb1⟩
      · have C1 := Lib.hid (hcum_no hy 14)
        rw [C1.out]
        go_wp2_with fail
        refine (len_no _ _ hy).mono ?_; rintro e w' ⟨rfl, rfl⟩
        go_wp2_with fail
        refine (awake4 _).mono ?_; rintro e w1 ⟨rfl, hb1⟩
        go_wp2_with fail
        refine (rmay_no _ _ hy).mono ?_; rintro e w' ⟨rfl, rfl⟩
        go_wp2
        go_ret
        exact ⟨rfl, hb1⟩

end Go.Proofs.Ytdjfmcomeaijgaa
