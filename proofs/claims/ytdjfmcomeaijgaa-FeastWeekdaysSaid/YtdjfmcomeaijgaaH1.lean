/- What hebrew.Days and the reference's Days, May, Day, First, Last return. -/
import Derived.Test.YtdjfmcomeaijgaaH0
import Derived.Test.YtdjfmcomeaijgaaM2
import Derived.Test.YtdjfmcomeaijgaaM3
namespace Go.Proofs.Ytdjfmcomeaijgaa
open Go.RowKit
set_option linter.unusedVariables false
set_option linter.unusedSimpArgs false

theorem thirteen {m : Int} (h1 : 1 ≤ m) (h2 : m ≤ 13) : m = 1 ∨ m = 2 ∨ m = 3 ∨ m = 4 ∨ m = 5 ∨ m = 6 ∨ m = 7 ∨ m = 8 ∨ m = 9 ∨ m = 10 ∨ m = 11 ∨ m = 12 ∨ m = 13 := by omega

set_option maxHeartbeats 2000000 in
theorem hdays_any (h m : Int) (w : World) :
    Calls Try.prog 38 #[.int .i64 h, .int .i64 m] w fun e w' => e = .returned (.int .i64 (hdim h m)) ∧ w = w' := by
  by_cases hy : Yr h
  · have hI : I64 h := by unfold Yr at hy; unfold I64; omega
    by_cases h1 : m < 1
    · have H := Lib.hid (hdim_no (h := h) (m := m) (.inr (.inl h1)))
      go_enter Try.func38, Try.ntmps38
      go_wp2_with fail
      refine (len_ok _ _ hy).mono ?_; rintro e w' ⟨rfl, rfl⟩
      go_wp2
      go_ret
      exact ⟨one H.out.symm, rfl⟩
    · by_cases h2 : 13 < m
      · have H := Lib.hid (hdim_no (h := h) (m := m) (.inr (.inr h2)))
        have h3 : 1 ≤ m := by omega
        clear h1
        go_enter Try.func38, Try.ntmps38
        go_wp2_with fail
        refine (len_ok _ _ hy).mono ?_; rintro e w' ⟨rfl, rfl⟩
        go_wp2
        go_ret
        exact ⟨one H.out.symm, rfl⟩
      · obtain ⟨e1, e2, e3, e4, e5, e6, e7, e8, e9, e10, e11, e12, e13⟩ := hdim_0 hy
        have lb := ylen_bd hy
        rcases thirteen (m := m) (by omega) (by omega) with e | e | e | e | e | e | e | e | e | e | e | e | e <;> subst e
        case inr.inl =>
          clear e1 e3 e4 e5 e6 e7 e8 e9 e10 e11 e12 e13
          by_cases c : ylen h % 10 = 5
          · rw [if_pos c] at e2
            have H := Lib.hid e2
            clear e2
            go_enter Try.func38, Try.ntmps38
            go_wp2_with fail
            refine (len_ok _ _ hy).mono ?_; rintro e w' ⟨rfl, rfl⟩
            go_wp2
            go_ret
            exact ⟨one H.out.symm, rfl⟩
          · rw [if_neg c] at e2
            have H := Lib.hid e2
            clear e2
            go_enter Try.func38, Try.ntmps38
            go_wp2_with fail
            refine (len_ok _ _ hy).mono ?_; rintro e w' ⟨rfl, rfl⟩
            go_wp2
            go_ret
            exact ⟨one H.out.symm, rfl⟩
        case inr.inr.inl =>
          clear e1 e2 e4 e5 e6 e7 e8 e9 e10 e11 e12 e13
          by_cases c : ylen h % 10 = 3
          · rw [if_pos c] at e3
            have H := Lib.hid e3
            clear e3
            go_enter Try.func38, Try.ntmps38
            go_wp2_with fail
            refine (len_ok _ _ hy).mono ?_; rintro e w' ⟨rfl, rfl⟩
            go_wp2
            go_ret
            exact ⟨one H.out.symm, rfl⟩
          · rw [if_neg c] at e3
            have H := Lib.hid e3
            clear e3
            go_enter Try.func38, Try.ntmps38
            go_wp2_with fail
            refine (len_ok _ _ hy).mono ?_; rintro e w' ⟨rfl, rfl⟩
            go_wp2
            go_ret
            exact ⟨one H.out.symm, rfl⟩
        case inr.inr.inr.inr.inr.inl =>
          clear e1 e2 e3 e4 e5 e7 e8 e9 e10 e11 e12 e13
          cases l : leapB h with
          | true =>
            rw [l, if_pos rfl] at e6
            have H := Lib.hid e6
            have L := Lib.hid l
            clear e6 l
            go_enter Try.func38, Try.ntmps38
            go_wp2_with fail
            refine (len_ok _ _ hy).mono ?_; rintro e w' ⟨rfl, rfl⟩
            go_wp2_with fail
            refine (leap_any _ _ hI).mono ?_; rintro e w' ⟨rfl, rfl⟩
            rw [L.out]
            go_wp2
            go_ret
            exact ⟨one H.out.symm, rfl⟩
          | false =>
            rw [l, if_neg (by decide)] at e6
            have H := Lib.hid e6
            have L := Lib.hid l
            clear e6 l
            go_enter Try.func38, Try.ntmps38
            go_wp2_with fail
            refine (len_ok _ _ hy).mono ?_; rintro e w' ⟨rfl, rfl⟩
            go_wp2_with fail
            refine (leap_any _ _ hI).mono ?_; rintro e w' ⟨rfl, rfl⟩
            rw [L.out]
            go_wp2
            go_ret
            exact ⟨one H.out.symm, rfl⟩
        all_goals
          first | have H := Lib.hid e1 | skip
          have H4 := Lib.hid e4
          have H5 := Lib.hid e5
          have H7 := Lib.hid e7
          have H8 := Lib.hid e8
          have H9 := Lib.hid e9
          have H10 := Lib.hid e10
          have H11 := Lib.hid e11
          have H12 := Lib.hid e12
          have H13 := Lib.hid e13
          clear e1 e2 e3 e4 e5 e6 e7 e8 e9 e10 e11 e12 e13
          go_enter Try.func38, Try.ntmps38
          go_wp2_with fail
          refine (len_ok _ _ hy).mono ?_; rintro e w' ⟨rfl, rfl⟩
          go_wp2
          go_ret
          first
            | exact ⟨one H.out.symm, rfl⟩ | exact ⟨one H4.out.symm, rfl⟩ | exact ⟨one H5.out.symm, rfl⟩ | exact ⟨one H7.out.symm, rfl⟩ | exact ⟨one H8.out.symm, rfl⟩ | exact ⟨one H9.out.symm, rfl⟩
            | exact ⟨one H10.out.symm, rfl⟩ | exact ⟨one H11.out.symm, rfl⟩ | exact ⟨one H12.out.symm, rfl⟩ | exact ⟨one H13.out.symm, rfl⟩
  · have H := Lib.hid (hdim_no (h := h) (m := m) (.inl hy))
    go_enter Try.func38, Try.ntmps38
    go_wp2_with fail
    refine (len_no _ _ hy).mono ?_; rintro e w' ⟨rfl, rfl⟩
    go_wp2
    go_ret
    exact ⟨one H.out.symm, rfl⟩

end Go.Proofs.Ytdjfmcomeaijgaa
