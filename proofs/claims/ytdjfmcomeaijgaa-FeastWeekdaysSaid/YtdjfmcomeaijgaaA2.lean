/- What Clamp, the reference of chapter 1 and the example of its statements return. -/
import Derived.Test.YtdjfmcomeaijgaaA1
namespace Go.Proofs.Ytdjfmcomeaijgaa
open Go.RowKit
set_option linter.unusedVariables false



set_option maxHeartbeats 400000 in
theorem rmod_ok (a b : Int) (w : World) (h : 1 ≤ b) (ha : I64 a) (hb : b ≤ 9223372036854775807) :
    Calls Try.prog 61 #[.int .i64 a, .int .i64 b] w fun e w' => e = .returned (.int .i64 (a % b)) ∧ w = w' := by
  obtain ⟨h0, h1⟩ := ha
  have m := tmod_cases a b h
  have d := emod_bd a b h
  by_cases hm : 0 ≤ a.tmod b
  · have H := Lib.hid (m.1 hm).1
    clear m d
    go_enter Try.func61, Try.ntmps61
    go_wp2
    go_ret
    exact ⟨one H.out, rfl⟩
  · have hm : a.tmod b < 0 := by omega
    have e : wrap64 (a.tmod b + b) = a % b := by
      have := (m.2 hm).1
      rw [this, w64 (by omega) (by omega)]
    have H := Lib.hid e
    clear m d e
    go_enter Try.func61, Try.ntmps61
    go_wp2
    go_ret
    exact ⟨one H.out, rfl⟩





set_option maxHeartbeats 400000 in
theorem weekday_any (a : Int) (w : World) (ha : I64 a) :
    Calls Try.prog 36 #[.int .i64 a] w fun e w' => e = .returned (.int .i64 (a % 7)) ∧ w = w' := by
  go_enter Try.func36, Try.ntmps36
  go_wp2_with fail
  refine (mod_ok _ _ _ (by omega) ha (by omega)).mono ?_; rintro e w' ⟨rfl, rfl⟩
  go_wp2
  go_ret
  exact ⟨rfl, rfl⟩

set_option maxHeartbeats 400000 in
theorem rweekday_any (a : Int) (w : World) (ha : I64 a) :
    Calls Try.prog 66 #[.int .i64 a] w fun e w' => e = .returned (.int .i64 (a % 7)) ∧ w = w' := by
  go_enter Try.func66, Try.ntmps66
  go_wp2_with fail
  refine (rmod_ok _ _ _ (by omega) ha (by omega)).mono ?_; rintro e w' ⟨rfl, rfl⟩
  go_wp2
  go_ret
  exact ⟨rfl, rfl⟩

end Go.Proofs.Ytdjfmcomeaijgaa
