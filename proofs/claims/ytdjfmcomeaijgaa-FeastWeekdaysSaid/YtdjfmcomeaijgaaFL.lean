/- The reference of chapter 5: a date's feast, a day's, and whether it is one of rest. -/
import Derived.Test.YtdjfmcomeaijgaaFI
namespace Go.Proofs.Ytdjfmcomeaijgaa
open Go Go.RowKit
set_option linter.unusedVariables false
set_option linter.unusedSimpArgs false

theorem oneI {a b : Int} (h : a = b) : Ending.returned (.int .i64 a) = Ending.returned (.int .i64 b) := by rw [h]
theorem boolF {a b : Bool} (h : a = b) : Ending.returned (.bool a) = Ending.returned (.bool b) := by rw [h]

set_option maxHeartbeats 1000000 in
theorem rtishri_any (d : Int) (ab : Bool) (w : World) : Calls Try.prog 76 #[.int .i64 d, .bool ab] w fun e w' => e = .returned (.int .i64 (kindR 1 d ab)) ∧ w = w' := by
  cases ab
  all_goals
    go_enter Try.func76, Try.ntmps76
    go_wp2
    all_goals
      go_ret
      refine ⟨oneI ?_, rfl⟩
      unfold kindR
      rw [if_pos rfl]
      simp only [Bool.false_eq_true, false_and, or_false, true_and]
      try simp only [beq_iff_eq, beq_eq_false_iff_ne, ne_eq] at *
      repeat' split
      all_goals first | rfl | (exfalso; simp_all; done) | (exfalso; omega)

set_option maxHeartbeats 4000000 in
theorem rfOf_any (y m d : Int) (ab : Bool) (w : World) : Calls Try.prog 71 #[.agg #[.int .i64 y, .int .i64 m, .int .i64 d], .bool ab] w fun e w' => e = .returned (.int .i64 (kindR m d ab)) ∧ Below w.heap.size w w' := by
  have hA := (Below.refl w.heap.size w).alloc (Nat.le_refl _) (.cells #[.int .i64 y, .int .i64 m, .int .i64 d] 36)
  have HA := Lib.hid hA
  clear hA
  by_cases m1 : m = 1
  · subst m1
    go_enter Try.func71, Try.ntmps71
    go_wp2_with fail
    refine (rtishri_any _ _ _).mono ?_; rintro e w' ⟨rfl, rfl⟩
    go_wp2
    go_ret
    exact ⟨rfl, HA.out⟩
  · have h1 : (m == 1) = false := beq_eq_false_iff_ne.2 m1
    by_cases m8 : m = 8
    · have e8 : (m == 8) = true := beq_iff_eq.2 m8
      have e10 : (m == 10) = false := beq_eq_false_iff_ne.2 (by omega)
      cases ab
      all_goals
        go_enter Try.func71, Try.ntmps71
        go_wp2
        all_goals
          go_ret
          refine ⟨oneI ?_, (Below.refl _ _).alloc (Nat.le_refl _) _⟩
          unfold kindR
          rw [if_neg m1]
          simp only [m8, true_and, Bool.false_eq_true, false_and, or_false]
          try simp only [beq_iff_eq, beq_eq_false_iff_ne, ne_eq] at *
          repeat' split
          all_goals first | rfl | (exfalso; simp_all; done) | (exfalso; omega)
    · have e8 : (m == 8) = false := beq_eq_false_iff_ne.2 m8
      by_cases m10 : m = 10
      · have e10 : (m == 10) = true := beq_iff_eq.2 m10
        cases ab
        all_goals
          go_enter Try.func71, Try.ntmps71
          go_wp2
          all_goals
            go_ret
            refine ⟨oneI ?_, (Below.refl _ _).alloc (Nat.le_refl _) _⟩
            unfold kindR
            rw [if_neg m1, if_neg (fun c => m8 c.1), if_neg (fun c => m8 c.1)]
            simp only [m10, true_and, Bool.false_eq_true, false_and, or_false]
            try simp only [beq_iff_eq, beq_eq_false_iff_ne, ne_eq] at *
            repeat' split
            all_goals first | rfl | (exfalso; simp_all; done) | (exfalso; omega)
      · have e10 : (m == 10) = false := beq_eq_false_iff_ne.2 m10
        go_enter Try.func71, Try.ntmps71
        go_wp2
        go_ret
        refine ⟨oneI ?_, (Below.refl _ _).alloc (Nat.le_refl _) _⟩
        unfold kindR
        rw [if_neg m1, if_neg (fun c => m8 c.1), if_neg (fun c => m8 c.1), if_neg (fun c => m10 c.1)]

set_option maxHeartbeats 1000000 in
theorem rfHas_any (n : Int) (w : World) : Calls Try.prog 70 #[.int .i64 n] w fun e w' => e = .returned (.bool (decide (ny 3762 ≤ n) && decide (n ≤ ny 9999 + ylen 9999 - 1))) ∧ Below w.heap.size w w' := by
  go_enter Try.func70, Try.ntmps70
  go_wp2_with fail
  refine (rhfirst_any _).mono ?_; rintro e w1 ⟨rfl, hb⟩
  by_cases c : ny 3762 ≤ n
  · have hd : decide (ny 3762 ≤ n) = true := decide_eq_true c
    clear c
    go_wp2_with fail
    refine (rhlast_any _).mono ?_; rintro e w2 ⟨rfl, hb2⟩
    have HB := Lib.hid (hb.trans (hb2.mono hb.size))
    clear hb hb2
    go_wp2
    go_ret
    exact ⟨boolF (by rw [hd]; rfl), HB.out⟩
  · have hd : decide (ny 3762 ≤ n) = false := decide_eq_false c
    clear c
    go_wp2
    go_ret
    exact ⟨boolF (by rw [hd]; rfl), hb⟩

set_option maxHeartbeats 1000000 in
theorem rfKind_any (n k : Int) (ab : Bool) (w : World) (hk : KindN n ab k) : Calls Try.prog 49 #[.int .i64 n, .bool ab] w fun e w' => e = .returned (.int .i64 k) ∧ Below w.heap.size w w' := by
  rcases hk with ⟨c, rfl⟩ | ⟨h, m, d, c, e, hk⟩
  · have hf : (decide (ny 3762 ≤ n) && decide (n ≤ ny 9999 + ylen 9999 - 1)) = false := by simp; omega
    have HF := Lib.hid hf
    clear hf c
    go_enter Try.func49, Try.ntmps49
    go_wp2_with fail
    refine (rfHas_any _ _).mono ?_; rintro e w1 ⟨rfl, hb⟩
    rw [HF.out]
    go_wp2
    go_ret
    exact ⟨rfl, hb⟩
  · have hl := hnum_last c
    have hf : (decide (ny 3762 ≤ n) && decide (n ≤ ny 9999 + ylen 9999 - 1)) = true := by simp; omega
    have HF := Lib.hid hf
    have HK := Lib.hid (show kindR m d ab = k by rw [← kindV_R]; exact hk)
    clear hf hk hl
    go_enter Try.func49, Try.ntmps49
    go_wp2_with fail
    refine (rfHas_any _ _).mono ?_; rintro e w1 ⟨rfl, hb⟩
    rw [HF.out]
    subst e
    go_wp2_with fail
    refine (rhof_ok _ _ _ _ c).mono ?_; rintro e w2 ⟨rfl, hb2⟩
    go_wp2_with fail
    refine (rfOf_any _ _ _ _ _).mono ?_; rintro e w3 ⟨rfl, hb3⟩
    have h2 := hb.trans (hb2.mono hb.size)
    have HB := Lib.hid (h2.trans (hb3.mono h2.size))
    clear hb hb2 hb3 h2
    go_wp2
    go_ret
    exact ⟨oneI HK.out, HB.out⟩

end Go.Proofs.Ytdjfmcomeaijgaa
