/- The reference of chapter 5: whether a day is one of rest; the days of rest that touch. -/
import Derived.Test.YtdjfmcomeaijgaaFL
namespace Go.Proofs.Ytdjfmcomeaijgaa
open Go Go.RowKit
set_option linter.unusedVariables false
set_option linter.unusedSimpArgs false

set_option maxHeartbeats 1000000 in
theorem rfRest_any (n : Int) (ab r : Bool) (w : World) (hn : I64 n) (hr : r = true ↔ RestP n ab) : Calls Try.prog 51 #[.int .i64 n, .bool ab] w fun e w' => e = .returned (.bool r) ∧ Below w.heap.size w w' := by
  obtain ⟨k, hk, _⟩ := kindN_ex n ab
  have hrk := rest_kind hk
  by_cases c : ny 3762 ≤ n ∧ n < ny 9999 + ylen 9999
  · have hf : (decide (ny 3762 ≤ n) && decide (n ≤ ny 9999 + ylen 9999 - 1)) = true := by simp; omega
    have HF := Lib.hid hf
    have hr2 : r = true ↔ (n % 7 = 6 ∨ k ≠ 0) := by rw [hr, hrk]; constructor; exact fun x => x.2; exact fun x => ⟨c, x⟩
    have HK := Lib.hid hk
    clear hf c hr hrk hk
    by_cases c6 : n % 7 = 6
    · have r1 : r = true := hr2.2 (.inl c6)
      subst r1
      have h6 : (n % 7 == 6) = true := beq_iff_eq.2 c6
      clear hr2 c6
      go_enter Try.func51, Try.ntmps51
      go_wp2_with fail
      refine (rfHas_any _ _).mono ?_; rintro e w1 ⟨rfl, hb⟩
      rw [HF.out]
      go_wp2_with fail
      refine (rweekday_any _ _ hn).mono ?_; rintro e w' ⟨rfl, rfl⟩
      go_wp2
      go_ret
      exact ⟨rfl, hb⟩
    · have h6 : (n % 7 == 6) = false := beq_eq_false_iff_ne.2 c6
      have hr3 : r = (k != 0) := by
        rcases Bool.eq_false_or_eq_true r with x | x
        · rw [x]; have := hr2.1 x; simp; omega
        · rw [x]
          have : k = 0 := by
            refine Classical.byContradiction fun q => ?_
            have := hr2.2 (.inr q)
            rw [x] at this; cases this
          rw [this]; rfl
      subst hr3
      clear hr2 c6
      go_enter Try.func51, Try.ntmps51
      go_wp2_with fail
      refine (rfHas_any _ _).mono ?_; rintro e w1 ⟨rfl, hb⟩
      rw [HF.out]
      go_wp2_with fail
      refine (rweekday_any _ _ hn).mono ?_; rintro e w' ⟨rfl, rfl⟩
      go_wp2_with fail
      refine (rfKind_any _ k _ _ HK.out).mono ?_; rintro e w2 ⟨rfl, hb2⟩
      have HB := Lib.hid (hb.trans (hb2.mono hb.size))
      clear hb hb2
      go_wp2
      go_ret
      exact ⟨rfl, HB.out⟩
  · have hf : (decide (ny 3762 ≤ n) && decide (n ≤ ny 9999 + ylen 9999 - 1)) = false := by simp; omega
    have HF := Lib.hid hf
    have r0 : r = false := by
      rcases Bool.eq_false_or_eq_true r with x | x
      · exact absurd (hrk.1 (hr.1 x)).1 c
      · exact x
    subst r0
    clear hf c hr hrk hk
    go_enter Try.func51, Try.ntmps51
    go_wp2_with fail
    refine (rfHas_any _ _).mono ?_; rintro e w1 ⟨rfl, hb⟩
    rw [HF.out]
    go_wp2
    go_ret
    exact ⟨rfl, hb⟩
theorem rfRest_yes (n : Int) (ab : Bool) (w : World) (hn : I64 n) (hr : RestP n ab) : Calls Try.prog 51 #[.int .i64 n, .bool ab] w fun e w' => e = .returned (.bool true) ∧ Below w.heap.size w w' :=
  rfRest_any n ab true w hn ⟨fun _ => hr, fun _ => rfl⟩
theorem rfRest_no (n : Int) (ab : Bool) (w : World) (hn : I64 n) (hr : ¬ RestP n ab) : Calls Try.prog 51 #[.int .i64 n, .bool ab] w fun e w' => e = .returned (.bool false) ∧ Below w.heap.size w w' :=
  rfRest_any n ab false w hn ⟨fun x => (nomatch x), fun x => absurd x hr⟩

end Go.Proofs.Ytdjfmcomeaijgaa
