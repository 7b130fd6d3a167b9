/- The example that the statements of chapter 2 play. -/
import Derived.Test.YtdjfmcomeaijgaaDoorG3
namespace Go.Proofs.YtdjfmcomeaijgaaDoor
open Go.RowKit
set_option linter.unusedVariables false
set_option linter.unusedSimpArgs false

instance (y m d : Int) : Decidable (May y m d) := by unfold May; infer_instance

/-- What Of returns of any number: a date, and an error's number. -/
def ofV (n : Int) : Int × Int × Int × Int := if 1 ≤ n ∧ n ≤ 3652059 then (yOf n, mOf n, dOf n, 0) else (0, 0, 0, 21)
theorem gof_any (n : Int) (w : World) (ht : Tab w) : Calls Tryd.prog 31 #[.int .i64 n] w fun e w' => e = .returned (.tuple #[.agg #[.int .i64 (ofV n).1, .int .i64 (ofV n).2.1, .int .i64 (ofV n).2.2.1], .int .i64 (ofV n).2.2.2]) ∧ Below w.heap.size w w' := by
  unfold ofV
  by_cases h : 1 ≤ n ∧ n ≤ 3652059
  · rw [if_pos h]; exact gof_ok n w ht h.1 h.2
  · rw [if_neg h]; exact gof_no n w (by omega)
theorem may_zero : ¬ May 0 0 0 := by unfold May; omega

/-- What Day returns of any date. -/
def dayV (y m d : Int) : Int × Int := if May y m d then (num y m d, 0) else (0, 20)
theorem gday_any (y m d : Int) (w : World) (ht : Tab w) : Calls Tryd.prog 21 #[.agg #[.int .i64 y, .int .i64 m, .int .i64 d]] w fun e w' => e = .returned (.tuple #[.int .i64 (dayV y m d).1, .int .i64 (dayV y m d).2]) ∧ Below w.heap.size w w' := by
  unfold dayV
  by_cases h : May y m d
  · rw [if_pos h]; exact gday_ok y m d w ht h
  · rw [if_neg h]; exact gday_no y m d w ht h

set_option maxHeartbeats 1000000 in
theorem awake2 (w : World) (ht : Tab w) : Calls Tryd.prog 29 #[] w fun e w' => e = .returned (.bool true) ∧ Below w.heap.size w w' := by
  have m1 : May 2023 9 16 := by decide +kernel
  have e1 := Lib.hid (show num 2023 9 16 = 738779 by decide +kernel)
  have e2 := Lib.hid (show yOf 738779 = 2023 by decide +kernel)
  have e3 := Lib.hid (show mOf 738779 = 9 by decide +kernel)
  have e4 := Lib.hid (show dOf 738779 = 16 by decide +kernel)
  have e5 := Lib.hid (show nthV 2023 9 6 3 = (738779, 0) by decide +kernel)
  have e6 := Lib.hid (show lpB 2000 = true by decide +kernel)
  have e7 := Lib.hid (show dim 2000 2 = 29 by decide +kernel)
  go_enter Tryd.func29, Tryd.ntmps29
  go_wp2_with fail
  refine (gday_ok _ _ _ _ ht m1).mono ?_; rintro e w1 ⟨rfl, hb1⟩
  rw [e1.out]
  have ht1 := ht.below hb1
  go_wp2_with fail
  refine (gof_ok _ _ ht1 (by omega) (by omega)).mono ?_; rintro e w2 ⟨rfl, hb2⟩
  rw [e2.out, e3.out, e4.out]
  have ht2 := ht1.below hb2
  have hz2 := hb2.size
  go_wp2_with fail
  refine (gnth_any _ _ _ _ _ (ht2.alloc _)).mono ?_; rintro e w3 ⟨rfl, hb3⟩
  rw [e5.out]
  have hB := below_two (below_two hb1 hb2) ((Below.refl _ _).alloc (Nat.le_refl _) _ |>.trans (hb3.mono (by simp)))
  have ht3 := (ht2.alloc _).below hb3
  obtain ⟨hc3, hf3⟩ := bcell hb3
  have hz3 : w2.heap.size < w3.heap.size := by have := hb3.size; simp at this; omega
  clear hb1 hb2 hb3
  go_wp2_with fail
  refine (weekday_any _ _ (by unfold I64; omega)).mono ?_; rintro e w' ⟨rfl, rfl⟩
  go_wp2_with fail
  refine (gleap_any _ _).mono ?_; rintro e w' ⟨rfl, rfl⟩
  rw [e6.out]
  go_wp2_with fail
  refine (gdays_any _ _ _ ht3).mono ?_; rintro e w' ⟨rfl, rfl⟩
  rw [e7.out]
  go_wp2
  go_ret
  exact ⟨rfl, hB⟩

end Go.Proofs.YtdjfmcomeaijgaaDoor
