/- What each function of chapter 1 and of its reference returns, said of whole numbers. -/
import Derived.Test.YtdjfmcomeaijgaaRows
import Derived.Test.YtdjfmcomeaijgaaA0
import Derived.Lib.Hide
import Derived.OpenShut
import Derived.ScopeJumps
import Derived.WalkSpells
import Derived.WalkLawsBesides
namespace Go.Proofs.Ytdjfmcomeaijgaa
open Go.RowKit
set_option linter.unusedVariables false

theorem two {k l : IntKind} {a b c d : Int} (h : a = b) (h' : c = d) : Ending.returned (.tuple #[.int k a, .int l c]) = Ending.returned (.tuple #[.int k b, .int l d]) := by rw [h, h']
theorem one {k : IntKind} {a b : Int} (h : a = b) : Ending.returned (.int k a) = Ending.returned (.int k b) := by rw [h]

/-- Is a whole number of 64 bits. -/
def I64 (a : Int) : Prop := -9223372036854775808 ≤ a ∧ a ≤ 9223372036854775807
theorem i64_of {a : Int} (h : (Lit.int .i64 a).wf = true) : I64 a := bounds_i64 h


set_option maxHeartbeats 400000 in
theorem mod_bad (a b : Int) (w : World) (h : b < 1) :
    Calls Try.prog 60 #[.int .i64 a, .int .i64 b] w fun e w' => e = .returned (.tuple #[.int .i64 0, .int .i64 10]) ∧ w = w' := by
  go_enter Try.func60, Try.ntmps60
  go_wp2
  go_ret2
  exact ⟨rfl, rfl⟩

set_option maxHeartbeats 400000 in
theorem mod_ok (a b : Int) (w : World) (h : 1 ≤ b) (ha : I64 a) (hb : b ≤ 9223372036854775807) :
    Calls Try.prog 60 #[.int .i64 a, .int .i64 b] w fun e w' => e = .returned (.tuple #[.int .i64 (a % b), .int .i64 0]) ∧ w = w' := by
  obtain ⟨h0, h1⟩ := ha
  have m := tmod_cases a b h
  have d := emod_bd a b h
  by_cases hm : 0 ≤ a.tmod b
  · have H := Lib.hid (m.1 hm).1
    clear m d
    go_enter Try.func60, Try.ntmps60
    go_wp2
    go_ret2
    exact ⟨two H.out rfl, rfl⟩
  · have hm : a.tmod b < 0 := by omega
    have e : wrap64 (a.tmod b + b) = a % b := by
      have := (m.2 hm).1
      rw [this, w64 (by omega) (by omega)]
    have H := Lib.hid e
    clear m d e
    go_enter Try.func60, Try.ntmps60
    go_wp2
    go_ret2
    exact ⟨two H.out rfl, rfl⟩



end Go.Proofs.Ytdjfmcomeaijgaa
