/- What each function of chapter 1 and of its reference returns, said of whole numbers. -/
import Derived.Test.YtdjfmcomeaijgaaDoorRows
import Derived.Test.YtdjfmcomeaijgaaDoorA0
import Derived.Lib.Hide
import Derived.OpenShut
import Derived.ScopeJumps
import Derived.WalkSpells
import Derived.WalkLawsBesides
namespace Go.Proofs.YtdjfmcomeaijgaaDoor
open Go.RowKit
set_option linter.unusedVariables false

theorem two {k l : IntKind} {a b c d : Int} (h : a = b) (h' : c = d) : Ending.returned (.tuple #[.int k a, .int l c]) = Ending.returned (.tuple #[.int k b, .int l d]) := by rw [h, h']
theorem one {k : IntKind} {a b : Int} (h : a = b) : Ending.returned (.int k a) = Ending.returned (.int k b) := by rw [h]

/-- Is a whole number of 64 bits. -/
def I64 (a : Int) : Prop := -9223372036854775808 ≤ a ∧ a ≤ 9223372036854775807
theorem i64_of {a : Int} (h : (Lit.int .i64 a).wf = true) : I64 a := bounds_i64 h

set_option maxHeartbeats 400000 in
theorem div_bad (a b : Int) (w : World) (h : b < 1) :
    Calls Tryd.prog 61 #[.int .i64 a, .int .i64 b] w fun e w' => e = .returned (.tuple #[.int .i64 0, .int .i64 10]) ∧ w = w' := by
  go_enter Tryd.func61, Tryd.ntmps61
  go_wp2
  go_ret2
  exact ⟨rfl, rfl⟩

set_option maxHeartbeats 400000 in
theorem div_ok (a b : Int) (w : World) (h : 1 ≤ b) (ha : I64 a) :
    Calls Tryd.prog 61 #[.int .i64 a, .int .i64 b] w fun e w' => e = .returned (.tuple #[.int .i64 (a / b), .int .i64 0]) ∧ w = w' := by
  obtain ⟨h0, h1⟩ := ha
  have c := tdiv_cases a b h
  have m := tmod_cases a b h
  have d := ediv_bd a b h
  by_cases hm : 0 ≤ a.tmod b
  · have H := Lib.hid (c.1 hm)
    clear m d c
    go_enter Tryd.func61, Tryd.ntmps61
    go_wp2
    go_ret2
    exact ⟨two H.out rfl, rfl⟩
  · have hm : a.tmod b < 0 := by omega
    have e : wrap64 (a.tdiv b - 1) = a / b := by
      rw [c.2 hm, w64 (by omega) (by omega)]; omega
    have H := Lib.hid e
    clear c m d e
    go_enter Tryd.func61, Tryd.ntmps61
    go_wp2
    go_ret2
    exact ⟨two H.out rfl, rfl⟩

set_option maxHeartbeats 400000 in
theorem mod_bad (a b : Int) (w : World) (h : b < 1) :
    Calls Tryd.prog 56 #[.int .i64 a, .int .i64 b] w fun e w' => e = .returned (.tuple #[.int .i64 0, .int .i64 10]) ∧ w = w' := by
  go_enter Tryd.func56, Tryd.ntmps56
  go_wp2
  go_ret2
  exact ⟨rfl, rfl⟩

set_option maxHeartbeats 400000 in
theorem mod_ok (a b : Int) (w : World) (h : 1 ≤ b) (ha : I64 a) (hb : b ≤ 9223372036854775807) :
    Calls Tryd.prog 56 #[.int .i64 a, .int .i64 b] w fun e w' => e = .returned (.tuple #[.int .i64 (a % b), .int .i64 0]) ∧ w = w' := by
  obtain ⟨h0, h1⟩ := ha
  have m := tmod_cases a b h
  have d := emod_bd a b h
  by_cases hm : 0 ≤ a.tmod b
  · have H := Lib.hid (m.1 hm).1
    clear m d
    go_enter Tryd.func56, Tryd.ntmps56
    go_wp2
    go_ret2
    exact ⟨two H.out rfl, rfl⟩
  · have hm : a.tmod b < 0 := by omega
    have e : wrap64 (a.tmod b + b) = a % b := by
      have := (m.2 hm).1
      rw [this, w64 (by omega) (by omega)]
    have H := Lib.hid e
    clear m d e
    go_enter Tryd.func56, Tryd.ntmps56
    go_wp2
    go_ret2
    exact ⟨two H.out rfl, rfl⟩


set_option maxHeartbeats 400000 in
theorem next_by (a b r : Int) (w : World) (h : b < 1) :
    Calls Tryd.prog 59 #[.int .i64 a, .int .i64 b, .int .i64 r] w fun e w' => e = .returned (.tuple #[.int .i64 0, .int .i64 10]) ∧ w = w' := by
  go_enter Tryd.func59, Tryd.ntmps59
  go_wp2_with fail
  go_step3
  go_wp2_with fail
  refine (mod_bad _ _ _ h).mono ?_; rintro e w' ⟨rfl, rfl⟩
  go_wp2
  rw [Exit.noGoto_ret]
  go_ret2
  exact ⟨rfl, rfl⟩

set_option maxHeartbeats 400000 in
theorem next_rest (a b r : Int) (w : World) (h : 1 ≤ b) (ha : I64 a) (hb : b ≤ 9223372036854775807) (hr : r < 0 ∨ b ≤ r) :
    Calls Tryd.prog 59 #[.int .i64 a, .int .i64 b, .int .i64 r] w fun e w' => e = .returned (.tuple #[.int .i64 0, .int .i64 11]) ∧ w = w' := by
  by_cases hr2 : r < 0
  · clear hr
    go_enter Tryd.func59, Tryd.ntmps59
    go_wp2_with fail
    go_step3
    go_wp2_with fail
    refine (mod_ok _ _ _ h ha hb).mono ?_; rintro e w' ⟨rfl, rfl⟩
    go_wp2
    rw [Exit.noGoto_ret]
    go_ret2
    exact ⟨rfl, rfl⟩
  · have hr3 : b ≤ r := by omega
    clear hr
    go_enter Tryd.func59, Tryd.ntmps59
    go_wp2_with fail
    go_step3
    go_wp2_with fail
    refine (mod_ok _ _ _ h ha hb).mono ?_; rintro e w' ⟨rfl, rfl⟩
    go_wp2
    rw [Exit.noGoto_ret]
    go_ret2
    exact ⟨rfl, rfl⟩

/-- The slots of Next where it jumps. -/
def nextAct (a b r : Int) : Act :=
  { tmps :=
        #[Value.int IntKind.i64 a, Value.int IntKind.i64 b, Value.int IntKind.i64 r, undef, undef, undef,
          Value.int IntKind.i64 0, Value.int IntKind.i64 0, Value.int IntKind.i64 (a % b), Value.int IntKind.i64 0,
          Value.int IntKind.i64 (r - a % b), Value.tuple #[Value.int IntKind.i64 (a % b), Value.int IntKind.i64 0],
          Value.int IntKind.i64 a, Value.int IntKind.i64 b,
          Value.tuple #[Value.int IntKind.i64 (a % b), Value.int IntKind.i64 0], Value.int IntKind.i64 (a % b),
          Value.int IntKind.i64 0, Value.int IntKind.i64 0, Value.bool false, undef, Value.int IntKind.i64 r,
          Value.bool (decide (r < 0)), Value.bool (decide (r < 0)), Value.int IntKind.i64 r, Value.int IntKind.i64 b,
          Value.bool (decide (b ≤ r)), Value.bool (decide (r < 0) || decide (b ≤ r)), Value.int IntKind.i64 r,
          Value.int IntKind.i64 (a % b), Value.int IntKind.i64 (r - a % b), Value.int IntKind.i64 (r - a % b),
          Value.bool true, undef, undef, undef, undef, undef, undef, undef, undef, undef, undef],
    defers := [] }

set_option maxHeartbeats 400000 in
theorem next_great (a b r : Int) (w : World) (h : 1 ≤ b) (ha : I64 a) (hb : b ≤ 9223372036854775807) (hr : 0 ≤ r) (hr' : r < b) (hg : 9223372036854775807 < a + gap a b r) :
    Calls Tryd.prog 59 #[.int .i64 a, .int .i64 b, .int .i64 r] w fun e w' => e = .returned (.tuple #[.int .i64 0, .int .i64 12]) ∧ w = w' := by
  have g := gap_of a b r h hr hr'
  have m := emod_bd a b h
  have hA := ha
  obtain ⟨h0, h1⟩ := ha
  by_cases hm : a % b ≤ r
  · rw [if_pos hm] at g
    rw [g] at hg
    clear g
    go_enter Tryd.func59, Tryd.ntmps59
    go_wp2_with fail
    refine wp_scope_jumps 0 (fun a' w' => w' = w ∧ a' = nextAct a b r) (fun _ _ => 0) rfl ?first ?pass
    case first =>
      go_wp2_with fail
      refine (mod_ok _ _ _ h hA hb).mono ?_; rintro e w' ⟨rfl, rfl⟩
      go_wp2
      go_step3
      exact ⟨rfl, rfl, rfl⟩
    case pass =>
    rintro a' w' ⟨rfl, rfl⟩
    unfold nextAct
    go_wp2
    simp only [Exit.jump]
    go_ret2
    exact ⟨rfl, rfl⟩
  · rw [if_neg hm] at g
    rw [g] at hg
    clear g
    go_enter Tryd.func59, Tryd.ntmps59
    go_wp2_with fail
    go_step3
    go_wp2_with fail
    refine (mod_ok _ _ _ h hA hb).mono ?_; rintro e w' ⟨rfl, rfl⟩
    go_wp2
    go_step3
    go_wp2
    rw [Exit.noGoto_ret]
    go_ret2
    exact ⟨rfl, rfl⟩

set_option maxHeartbeats 400000 in
theorem next_ok (a b r : Int) (w : World) (h : 1 ≤ b) (ha : I64 a) (hb : b ≤ 9223372036854775807) (hr : 0 ≤ r) (hr' : r < b) (hg : a + gap a b r ≤ 9223372036854775807) :
    Calls Tryd.prog 59 #[.int .i64 a, .int .i64 b, .int .i64 r] w fun e w' => e = .returned (.tuple #[.int .i64 (a + gap a b r), .int .i64 0]) ∧ w = w' := by
  have g := gap_of a b r h hr hr'
  have m := emod_bd a b h
  have hA := ha
  obtain ⟨h0, h1⟩ := ha
  by_cases hm : a % b ≤ r
  · rw [if_pos hm] at g
    rw [g] at hg
    have H := Lib.hid g
    clear g
    go_enter Tryd.func59, Tryd.ntmps59
    go_wp2_with fail
    refine wp_scope_jumps 0 (fun a' w' => w' = w ∧ a' = nextAct a b r) (fun _ _ => 0) rfl ?first ?pass
    case first =>
      go_wp2_with fail
      refine (mod_ok _ _ _ h hA hb).mono ?_; rintro e w' ⟨rfl, rfl⟩
      go_wp2
      go_step3
      exact ⟨rfl, rfl, rfl⟩
    case pass =>
    rintro a' w' ⟨rfl, rfl⟩
    unfold nextAct
    go_wp2
    simp only [Exit.jump]
    go_ret2
    exact ⟨two (by rw [H.out]) rfl, rfl⟩
  · rw [if_neg hm] at g
    rw [g] at hg
    have H := Lib.hid g
    clear g
    go_enter Tryd.func59, Tryd.ntmps59
    go_wp2_with fail
    go_step3
    go_wp2_with fail
    refine (mod_ok _ _ _ h hA hb).mono ?_; rintro e w' ⟨rfl, rfl⟩
    go_wp2
    go_step3
    go_wp2
    rw [Exit.noGoto_ret]
    go_ret2
    exact ⟨two (by rw [H.out]) rfl, rfl⟩

end Go.Proofs.YtdjfmcomeaijgaaDoor
