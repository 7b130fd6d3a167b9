/- What Clamp, the reference of chapter 1 and the example of its statements return. -/
import Derived.Test.YtdjfmcomeaijgaaDoorA1
namespace Go.Proofs.YtdjfmcomeaijgaaDoor
open Go.RowKit
set_option linter.unusedVariables false



set_option maxHeartbeats 400000 in
theorem rmod_ok (a b : Int) (w : World) (h : 1 ≤ b) (ha : I64 a) (hb : b ≤ 9223372036854775807) :
    Calls Tryd.prog 57 #[.int .i64 a, .int .i64 b] w fun e w' => e = .returned (.int .i64 (a % b)) ∧ w = w' := by
  obtain ⟨h0, h1⟩ := ha
  have m := tmod_cases a b h
  have d := emod_bd a b h
  by_cases hm : 0 ≤ a.tmod b
  · have H := Lib.hid (m.1 hm).1
    clear m d
    go_enter Tryd.func57, Tryd.ntmps57
    go_wp2
    go_ret
    exact ⟨one H.out, rfl⟩
  · have hm : a.tmod b < 0 := by omega
    have e : wrap64 (a.tmod b + b) = a % b := by
      have := (m.2 hm).1
      rw [this, w64 (by omega) (by omega)]
    have H := Lib.hid e
    clear m d e
    go_enter Tryd.func57, Tryd.ntmps57
    go_wp2
    go_ret
    exact ⟨one H.out, rfl⟩

set_option maxHeartbeats 400000 in
theorem rdiv_ok (a b : Int) (w : World) (h : 1 ≤ b) (ha : I64 a) :
    Calls Tryd.prog 62 #[.int .i64 a, .int .i64 b] w fun e w' => e = .returned (.int .i64 (a / b)) ∧ w = w' := by
  obtain ⟨h0, h1⟩ := ha
  have m := tmod_cases a b h
  have c := tdiv_cases a b h
  have d := ediv_bd a b h
  by_cases hm : a.tmod b = 0
  · have H := Lib.hid (c.1 (by omega))
    have hm1 : (a.tmod b == 0) = true := beq_iff_eq.2 hm
    have hm2 : (a.tmod b != 0) = false := by simp [hm]
    clear m c d hm
    go_enter Tryd.func62, Tryd.ntmps62
    go_wp2
    go_ret
    exact ⟨one H.out, rfl⟩
  · have hm1 : (a.tmod b == 0) = false := beq_eq_false_iff_ne.2 hm
    have hm2 : (a.tmod b != 0) = true := by simp [hm]
    by_cases hn : a < 0
    · have e : a.tmod b < 0 := by
        by_cases h2 : 0 ≤ a.tmod b
        · have := (m.1 h2).2; omega
        · omega
      have e : wrap64 (a.tdiv b - 1) = a / b := by
        rw [c.2 e, w64 (by omega) (by omega)]; omega
      have H := Lib.hid e
      clear m c d e hm
      go_enter Tryd.func62, Tryd.ntmps62
      go_wp2
      go_ret
      exact ⟨one H.out, rfl⟩
    · have e : 0 ≤ a.tmod b := by
        by_cases h2 : 0 ≤ a.tmod b
        · exact h2
        · have := (m.2 (by omega)).2; omega
      have H := Lib.hid (c.1 e)
      have hn : 0 ≤ a := by omega
      clear m c d e hm hm1 hm2
      by_cases hm : a % b = 0
      · have hm1 : (a % b == 0) = true := beq_iff_eq.2 hm
        have hm2 : (a % b != 0) = false := by simp [hm]
        clear hm
        go_enter Tryd.func62, Tryd.ntmps62
        go_wp2
        go_ret
        exact ⟨rfl, rfl⟩
      · have hm1 : (a % b == 0) = false := beq_eq_false_iff_ne.2 hm
        have hm2 : (a % b != 0) = true := by simp [hm]
        clear hm
        go_enter Tryd.func62, Tryd.ntmps62
        go_wp2
        go_ret
        exact ⟨rfl, rfl⟩




set_option maxHeartbeats 400000 in
theorem weekday_any (a : Int) (w : World) (ha : I64 a) :
    Calls Tryd.prog 26 #[.int .i64 a] w fun e w' => e = .returned (.int .i64 (a % 7)) ∧ w = w' := by
  go_enter Tryd.func26, Tryd.ntmps26
  go_wp2_with fail
  refine (mod_ok _ _ _ (by omega) ha (by omega)).mono ?_; rintro e w' ⟨rfl, rfl⟩
  go_wp2
  go_ret
  exact ⟨rfl, rfl⟩

set_option maxHeartbeats 400000 in
theorem rweekday_any (a : Int) (w : World) (ha : I64 a) :
    Calls Tryd.prog 27 #[.int .i64 a] w fun e w' => e = .returned (.int .i64 (a % 7)) ∧ w = w' := by
  go_enter Tryd.func27, Tryd.ntmps27
  go_wp2_with fail
  refine (rmod_ok _ _ _ (by omega) ha (by omega)).mono ?_; rintro e w' ⟨rfl, rfl⟩
  go_wp2
  go_ret
  exact ⟨rfl, rfl⟩

end Go.Proofs.YtdjfmcomeaijgaaDoor
