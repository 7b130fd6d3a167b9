/- What the functions of chapter 3 return, said of whole numbers. -/
import Derived.Test.YtdjfmcomeaijgaaA2
import Derived.Test.YtdjfmcomeaijgaaM0
namespace Go.Proofs.Ytdjfmcomeaijgaa
open Go.RowKit
set_option linter.unusedVariables false

set_option maxHeartbeats 400000 in
theorem leap_any (h : Int) (w : World) (hh : I64 h) :
    Calls Try.prog 24 #[.int .i64 h] w fun e w' => e = .returned (.bool (leapB h)) ∧ w = w' := by
  have m := emod_bd h 19 (by omega)
  go_enter Try.func24, Try.ntmps24
  go_wp2_with fail
  refine (mod_ok _ _ _ (by omega) hh (by omega)).mono ?_; rintro e w' ⟨rfl, rfl⟩
  go_wp2
  go_ret
  exact ⟨by unfold leapB; rfl, rfl⟩

/-- A year that is reckoned. -/
def Yr (h : Int) : Prop := 3762 ≤ h ∧ h ≤ 9999

set_option maxHeartbeats 400000 in
theorem ymonths_any (h : Int) (w : World) (h1 : 3000 ≤ h) (h2 : h ≤ 10100) :
    Calls Try.prog 58 #[.int .i64 h] w fun e w' => e = .returned (.int .i64 (mon h)) ∧ w = w' := by
  go_enter Try.func58, Try.ntmps58
  go_wp2
  go_ret
  exact ⟨by unfold mon; rfl, rfl⟩

set_option maxHeartbeats 400000 in
theorem ymoon_any (h : Int) (w : World) (h1 : 3000 ≤ h) (h2 : h ≤ 10100) :
    Calls Try.prog 59 #[.int .i64 h] w fun e w' => e = .returned (.tuple #[.int .i64 (mday h), .int .i64 (mpart h)]) ∧ w = w' := by
  have b := mon_bd h h1 h2
  go_enter Try.func59, Try.ntmps59
  go_wp2_with fail
  refine (ymonths_any _ _ h1 h2).mono ?_; rintro e w' ⟨rfl, rfl⟩
  go_wp2
  go_ret2
  exact ⟨two (by unfold mday parts; rfl) (by unfold mpart parts; rfl), rfl⟩

set_option maxHeartbeats 400000 in
theorem molad_ok (h : Int) (w : World) (hy : Yr h) :
    Calls Try.prog 23 #[.int .i64 h] w fun e w' => e = .returned (.tuple #[.int .i64 (mday h), .int .i64 (mpart h), .int .i64 0]) ∧ w = w' := by
  obtain ⟨h1, h2⟩ := hy
  go_enter Try.func23, Try.ntmps23
  go_wp2_with fail
  refine (ymoon_any _ _ (by omega) (by omega)).mono ?_; rintro e w' ⟨rfl, rfl⟩
  go_wp2
  go_ret3
  exact ⟨rfl, rfl⟩

set_option maxHeartbeats 400000 in
theorem reckoned_no (h : Int) (v : Value) (w : World) (hy : ¬ Yr h) :
    Calls Try.prog 57 #[.int .i64 h, v] w fun e w' => e = .returned (.tuple #[.int .i64 0, .int .i64 30]) ∧ w = w' := by
  unfold Yr at hy
  by_cases h1 : h < 3762
  · clear hy
    go_enter Try.func57, Try.ntmps57
    go_wp2_with fail
    go_ret2
    exact ⟨rfl, rfl⟩
  · have h2 : 9999 < h := by omega
    clear hy
    go_enter Try.func57, Try.ntmps57
    go_wp2_with fail
    go_ret2
    exact ⟨rfl, rfl⟩

set_option maxHeartbeats 400000 in
theorem reckoned_ok (k : FuncId) (h r : Int) (w : World) (hk : ∀ args w, (callFunc k args).run Try.prog w = .ok (.enter k args) w) (hy : Yr h) (hc : Calls Try.prog k #[.int .i64 h] w fun e w' => e = .returned (.int .i64 r) ∧ w = w') :
    Calls Try.prog 57 #[.int .i64 h, .func (.func k) #[.int .i64 h] #[]] w fun e w' => e = .returned (.tuple #[.int .i64 r, .int .i64 0]) ∧ w = w' := by
  obtain ⟨h1, h2⟩ := hy
  have H := Lib.hid hc
  clear hc
  go_enter Try.func57, Try.ntmps57
  go_wp2_with fail
  refine H.out.mono ?_; rintro e w' ⟨rfl, rfl⟩
  go_wp2
  go_ret2
  exact ⟨rfl, rfl⟩

set_option maxHeartbeats 400000 in
theorem months_ok (h : Int) (w : World) (hy : Yr h) :
    Calls Try.prog 22 #[.int .i64 h] w fun e w' => e = .returned (.tuple #[.int .i64 (mon h), .int .i64 0]) ∧ w = w' := by
  go_enter Try.func22, Try.ntmps22
  go_wp2_with fail
  refine (reckoned_ok _ _ _ _ (fun _ _ => by kernel_rfl) hy (ymonths_any _ _ (by have := hy.1; omega) (by have := hy.2; omega))).mono ?_; rintro e w' ⟨rfl, rfl⟩
  go_wp2
  go_ret2
  exact ⟨rfl, rfl⟩

end Go.Proofs.Ytdjfmcomeaijgaa
