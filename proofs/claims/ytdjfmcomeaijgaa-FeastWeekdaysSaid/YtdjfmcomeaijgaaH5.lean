/- What the reference of chapter 4 returns. -/
import Derived.Test.YtdjfmcomeaijgaaH1
import Derived.Deep.RegionHeld3
import Derived.Deep.QuietTactic
import Derived.BigQuiet
namespace Go.Proofs.Ytdjfmcomeaijgaa
open Go.RowKit
set_option linter.unusedVariables false
set_option linter.unusedSimpArgs false

set_option maxHeartbeats 2000000 in
theorem rhdays_any (h m : Int) (w : World) :
    Calls Try.prog 39 #[.int .i64 h, .int .i64 m] w fun e w' => e = .returned (.int .i64 (hdim h m)) ∧ Below w.heap.size w w' := by
  by_cases hy : Yr h
  · have hI : I64 h := by unfold Yr at hy; unfold I64; omega
    by_cases h1 : m < 1
    · have H := Lib.hid (hdim_no (h := h) (m := m) (.inr (.inl h1)))
      go_enter Try.func39, Try.ntmps39
      go_wp2_with fail
      refine (rmay_yes _ _ hy).mono ?_; rintro e w' ⟨rfl, rfl⟩
      go_wp2
      go_ret
      exact ⟨one H.out.symm, Below.refl _ _⟩
    · by_cases h2 : 13 < m
      · have H := Lib.hid (hdim_no (h := h) (m := m) (.inr (.inr h2)))
        have h3 : 1 ≤ m := by omega
        clear h1
        go_enter Try.func39, Try.ntmps39
        go_wp2_with fail
        refine (rmay_yes _ _ hy).mono ?_; rintro e w' ⟨rfl, rfl⟩
        go_wp2
        go_ret
        exact ⟨one H.out.symm, Below.refl _ _⟩
      · obtain ⟨e1, e2, e3, e4, e5, e6, e7, e8, e9, e10, e11, e12, e13⟩ := hdim_0 hy
        have lb := ylen_bd hy
        have hy1 := hy.1
        have hy2 := hy.2
        rcases thirteen (m := m) (by omega) (by omega) with e | e | e | e | e | e | e | e | e | e | e | e | e <;> subst e
        case inr.inl =>
          clear e1 e3 e4 e5 e6 e7 e8 e9 e10 e11 e12 e13
          by_cases c : ylen h % 10 = 5
          all_goals
            first | rw [if_pos c] at e2 | rw [if_neg c] at e2
            have H := Lib.hid e2
            clear e2
            go_enter Try.func39, Try.ntmps39
            go_wp2_with fail
            refine (rmay_yes _ _ hy).mono ?_; rintro e w' ⟨rfl, rfl⟩
            go_wp2_with fail
            refine (rlen_any _ _ (by omega) (by omega)).mono ?_; rintro e w1 ⟨rfl, hb1⟩
            have hB := Lib.hid hb1
            clear hb1
            go_wp2_with (go_at_call 25; refine (rleap_any _ _ hI).mono ?_; rintro e w' ⟨rfl, rfl⟩)
            go_ret
            exact ⟨one H.out.symm, hB.out⟩
        case inr.inr.inl =>
          clear e1 e2 e4 e5 e6 e7 e8 e9 e10 e11 e12 e13
          by_cases c : ylen h % 10 = 3
          all_goals
            first | rw [if_pos c] at e3 | rw [if_neg c] at e3
            have H := Lib.hid e3
            clear e3
            go_enter Try.func39, Try.ntmps39
            go_wp2_with fail
            refine (rmay_yes _ _ hy).mono ?_; rintro e w' ⟨rfl, rfl⟩
            go_wp2_with fail
            refine (rlen_any _ _ (by omega) (by omega)).mono ?_; rintro e w1 ⟨rfl, hb1⟩
            have hB := Lib.hid hb1
            clear hb1
            go_wp2_with (go_at_call 25; refine (rleap_any _ _ hI).mono ?_; rintro e w' ⟨rfl, rfl⟩)
            go_ret
            exact ⟨one H.out.symm, hB.out⟩
        case inr.inr.inr.inr.inr.inl =>
          clear e1 e2 e3 e4 e5 e7 e8 e9 e10 e11 e12 e13
          cases l : leapB h
          all_goals
            rw [l] at e6
            first | rw [if_pos rfl] at e6 | rw [if_neg (by decide)] at e6
            have H := Lib.hid e6
            have L := Lib.hid l
            clear e6 l
            go_enter Try.func39, Try.ntmps39
            go_wp2_with fail
            refine (rmay_yes _ _ hy).mono ?_; rintro e w' ⟨rfl, rfl⟩
            go_wp2_with fail
            refine (rlen_any _ _ (by omega) (by omega)).mono ?_; rintro e w1 ⟨rfl, hb1⟩
            have hB := Lib.hid hb1
            clear hb1
            go_wp2_with (go_at_call 25; refine (rleap_any _ _ hI).mono ?_; rintro e w' ⟨rfl, rfl⟩; rw [L.out])
            go_ret
            exact ⟨one H.out.symm, hB.out⟩
        all_goals
          have H := Lib.hid e1
          have H4 := Lib.hid e4
          have H5 := Lib.hid e5
          have H7 := Lib.hid e7
          have H8 := Lib.hid e8
          have H9 := Lib.hid e9
          have H10 := Lib.hid e10
          have H11 := Lib.hid e11
          have H12 := Lib.hid e12
          have H13 := Lib.hid e13
          clear e1 e2 e3 e4 e5 e6 e7 e8 e9 e10 e11 e12 e13
          go_enter Try.func39, Try.ntmps39
          go_wp2_with fail
          refine (rmay_yes _ _ hy).mono ?_; rintro e w' ⟨rfl, rfl⟩
          go_wp2_with fail
          refine (rlen_any _ _ (by omega) (by omega)).mono ?_; rintro e w1 ⟨rfl, hb1⟩
          have hB := Lib.hid hb1
          clear hb1
          go_wp2_with (go_at_call 25; refine (rleap_any _ _ hI).mono ?_; rintro e w' ⟨rfl, rfl⟩)
          go_ret
          first
            | exact ⟨one H.out.symm, hB.out⟩ | exact ⟨one H4.out.symm, hB.out⟩ | exact ⟨one H5.out.symm, hB.out⟩ | exact ⟨one H7.out.symm, hB.out⟩ | exact ⟨one H8.out.symm, hB.out⟩ | exact ⟨one H9.out.symm, hB.out⟩
            | exact ⟨one H10.out.symm, hB.out⟩ | exact ⟨one H11.out.symm, hB.out⟩ | exact ⟨one H12.out.symm, hB.out⟩ | exact ⟨one H13.out.symm, hB.out⟩
  · have H := Lib.hid (hdim_no (h := h) (m := m) (.inl hy))
    go_enter Try.func39, Try.ntmps39
    go_wp2_with fail
    refine (rmay_no _ _ hy).mono ?_; rintro e w' ⟨rfl, rfl⟩
    go_wp2
    go_ret
    exact ⟨one H.out.symm, Below.refl _ _⟩

end Go.Proofs.Ytdjfmcomeaijgaa
