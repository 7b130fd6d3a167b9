/- MoladRound: 19 years have 235 months, seven of them are leap, no two in a row; the moon comes so many parts later: the walk. -/
import Derived.Test.YtdjfmcomeaijgaaM2
import Derived.Test.YtdjfmcomeaijgaaM3
namespace Go.Proofs.Ytdjfmcomeaijgaa
open Go.RowKit
set_option linter.unusedVariables false

theorem moon_later (h : Int) : (mday (h + 19) - mday h) * 25920 + mpart (h + 19) - mpart h = 179876755 := by
  unfold mday mpart parts
  rw [mon_19]
  omega

set_option maxHeartbeats 2000000 in
theorem walk_MoladRound (h : Int) (wh : (Lit.int .i64 h).wf = true) (w : World) :
    Calls Try.prog 7 #[.int .i64 h] w fun e w' => e = .returned (.bool true) ∧ Below w.heap.size w w' := by
  have hI := i64_of wh
  clear wh
  by_cases h1 : h < 3762
  · go_enter Try.func7, Try.ntmps7
    go_wp2_with fail
    refine (awake3 _).mono ?_; rintro e w' ⟨rfl, rfl⟩
    go_wp2
    go_ret
    exact ⟨rfl, Below.refl _ _⟩
  by_cases h2 : 9980 < h
  · have h3 : 3762 ≤ h := by omega
    go_enter Try.func7, Try.ntmps7
    go_wp2_with fail
    refine (awake3 _).mono ?_; rintro e w' ⟨rfl, rfl⟩
    go_wp2
    go_ret
    exact ⟨rfl, Below.refl _ _⟩
  have h3 : 3762 ≤ h := by omega
  have h4 : h ≤ 9980 := by omega
  clear h1 h2
  have hy : Yr h := ⟨by omega, by omega⟩
  have hy1 : Yr (h + 19) := ⟨by omega, by omega⟩
  have b1 := mday_bd h (by omega) (by omega)
  have b2 := mday_bd (h + 19) (by omega) (by omega)
  have b3 := mon_bd h (by omega) (by omega)
  have b4 := mpart_bd h
  have b5 := mpart_bd (h + 19)
  have ms := Lib.hid (mon_19 h)
  have ml := moon_later h
  have e1 : (mon (h + 19) == mon h + 235) = true := by rw [beq_iff_eq]; exact ms.out
  have e2 : ((mday (h + 19) - mday h) * 25920 + mpart (h + 19) - mpart h == 179876755) = true := by rw [beq_iff_eq]; exact ml
  clear ml
  go_enter Try.func7, Try.ntmps7
  go_wp2_with fail
  refine (months_ok _ _ hy).mono ?_; rintro e w' ⟨rfl, rfl⟩
  go_wp2_with fail
  refine (months_ok _ _ hy1).mono ?_; rintro e w' ⟨rfl, rfl⟩
  go_wp2_with fail
  refine (molad_ok _ _ hy).mono ?_; rintro e w' ⟨rfl, rfl⟩
  go_wp2_with fail
  refine (molad_ok _ _ hy1).mono ?_; rintro e w' ⟨rfl, rfl⟩
  go_wp2_with fail
  go_loop [13, 14] (fun n y => ∃ Y : Int, h ≤ Y ∧ Y ≤ h + 19 ∧ y = .int .i64 Y ∧ n = .int .i64 (mon Y - mon h - 12 * (Y - h))) (fun _ y => (h + 19 - intOf y).toNat)
  case atStart => exact ⟨h, by omega, by omega, rfl, by go_num⟩
  case round =>
    obtain ⟨Y, hY1, hY2, rfl, rfl⟩ := hrel
    have bY := mon_bd Y (by omega) (by omega)
    by_cases hlt : Y < h + 19
    · have hs := Lib.hid (mon_succ Y)
      by_cases hl : leapB Y = true
      · have hl2 := Lib.hid (leap_two Y hl)
        have hl := Lib.hid hl
        go_wp2_with fail
        refine (leap_any _ _ (by unfold I64; omega)).mono ?_; rintro e w' ⟨rfl, rfl⟩
        rw [hl.out]
        go_wp2_with fail
        refine (leap_any _ _ (by unfold I64; omega)).mono ?_; rintro e w' ⟨rfl, rfl⟩
        rw [hl.out]
        go_wp2_with fail
        refine (leap_any _ _ (by unfold I64; omega)).mono ?_; rintro e w' ⟨rfl, rfl⟩
        rw [hl2.out]
        go_wp2
        go_round
        case rel => exact ⟨Y + 1, by omega, by omega, by go_num, by rw [hs.out, if_pos hl.out]; go_num⟩
        case measure => simp [intOf]; omega
      · have hl := Lib.hid (show leapB Y = false by simpa using hl)
        go_wp2_with fail
        refine (leap_any _ _ (by unfold I64; omega)).mono ?_; rintro e w' ⟨rfl, rfl⟩
        rw [hl.out]
        go_wp2_with fail
        refine (leap_any _ _ (by unfold I64; omega)).mono ?_; rintro e w' ⟨rfl, rfl⟩
        rw [hl.out]
        go_wp2
        go_round
        case rel => exact ⟨Y + 1, by omega, by omega, by go_num, by rw [hs.out, if_neg (by rw [hl.out]; decide)]; go_num⟩
        case measure => simp [intOf]; omega
    · have e : Y = h + 19 := by omega
      have e7 : (mon Y - mon h - 12 * (Y - h) == 7) = true := by rw [beq_iff_eq, e, ms.out]; omega
      clear e
      go_wp2_with fail
      refine (awake3 _).mono ?_; rintro e w' ⟨rfl, rfl⟩
      go_wp2
      go_ret
      exact ⟨rfl, Below.refl _ _⟩

end Go.Proofs.Ytdjfmcomeaijgaa
