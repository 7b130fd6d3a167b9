/- What Clamp, the reference of chapter 1 and the example of its statements return. -/
import Derived.Test.YtmfkdfkoopnnpaaA1
namespace Go.Proofs.Ytmfkdfkoopnnpaa
open Go.RowKit
set_option linter.unusedVariables false

set_option maxHeartbeats 400000 in
theorem within_any (n lo hi : Int) (w : World) :
    Calls Try.prog 21 #[.int .i64 n, .int .i64 lo, .int .i64 hi] w fun e w' => e = .returned (.int .i64 (near n lo hi)) ∧ w = w' := by
  by_cases h1 : n < lo
  · have H := Lib.hid (show near n lo hi = lo by unfold near; rw [if_pos h1])
    go_enter Try.func21, Try.ntmps21
    go_wp2
    go_ret
    exact ⟨one H.out.symm, rfl⟩
  · by_cases h2 : hi < lo
    · have H := Lib.hid (show near n lo hi = lo by unfold near; rw [if_neg h1, if_pos h2])
      have h3 : ¬ n < lo := h1
      go_enter Try.func21, Try.ntmps21
      go_wp2
      go_ret
      exact ⟨one H.out.symm, rfl⟩
    · by_cases h3 : hi < n
      · have H := Lib.hid (show near n lo hi = hi by unfold near; rw [if_neg h1, if_neg h2, if_pos h3])
        go_enter Try.func21, Try.ntmps21
        go_wp2
        go_ret
        exact ⟨one H.out.symm, rfl⟩
      · have H := Lib.hid (show near n lo hi = n by unfold near; rw [if_neg h1, if_neg h2, if_neg h3])
        go_enter Try.func21, Try.ntmps21
        go_wp2
        go_ret
        exact ⟨one H.out.symm, rfl⟩

set_option maxHeartbeats 400000 in
theorem clamp_any (n lo hi : Int) (w : World) :
    Calls Try.prog 19 #[.int .i64 n, .int .i64 lo, .int .i64 hi] w fun e w' => e = .returned (.int .i64 (near n lo hi)) ∧ w = w' := by
  go_enter Try.func19, Try.ntmps19
  go_wp2_with fail
  refine (within_any _ _ _ _).mono ?_; rintro e w' ⟨rfl, rfl⟩
  go_wp2
  go_ret
  exact ⟨rfl, rfl⟩

set_option maxHeartbeats 400000 in
theorem rclamp_any (n lo hi : Int) (w : World) :
    Calls Try.prog 20 #[.int .i64 n, .int .i64 lo, .int .i64 hi] w fun e w' => e = .returned (.int .i64 (near n lo hi)) ∧ w = w' := by
  by_cases h1 : n < lo
  · have H := Lib.hid (show near n lo hi = lo by unfold near; rw [if_pos h1])
    go_enter Try.func20, Try.ntmps20
    go_wp2
    go_ret
    exact ⟨one H.out.symm, rfl⟩
  · by_cases h2 : hi < lo
    · have H := Lib.hid (show near n lo hi = lo by unfold near; rw [if_neg h1, if_pos h2])
      have h3 : ¬ n < lo := h1
      go_enter Try.func20, Try.ntmps20
      go_wp2
      go_ret
      exact ⟨one H.out.symm, rfl⟩
    · by_cases h3 : hi < n
      · have H := Lib.hid (show near n lo hi = hi by unfold near; rw [if_neg h1, if_neg h2, if_pos h3])
        go_enter Try.func20, Try.ntmps20
        go_wp2
        go_ret
        exact ⟨one H.out.symm, rfl⟩
      · have H := Lib.hid (show near n lo hi = n by unfold near; rw [if_neg h1, if_neg h2, if_neg h3])
        go_enter Try.func20, Try.ntmps20
        go_wp2
        go_ret
        exact ⟨one H.out.symm, rfl⟩

set_option maxHeartbeats 400000 in
theorem rmod_ok (a b : Int) (w : World) (h : 1 ≤ b) (ha : I64 a) (hb : b ≤ 9223372036854775807) :
    Calls Try.prog 15 #[.int .i64 a, .int .i64 b] w fun e w' => e = .returned (.int .i64 (a % b)) ∧ w = w' := by
  obtain ⟨h0, h1⟩ := ha
  have m := tmod_cases a b h
  have d := emod_bd a b h
  by_cases hm : 0 ≤ a.tmod b
  · have H := Lib.hid (m.1 hm).1
    clear m d
    go_enter Try.func15, Try.ntmps15
    go_wp2
    go_ret
    exact ⟨one H.out, rfl⟩
  · have hm : a.tmod b < 0 := by omega
    have e : wrap64 (a.tmod b + b) = a % b := by
      have := (m.2 hm).1
      rw [this, w64 (by omega) (by omega)]
    have H := Lib.hid e
    clear m d e
    go_enter Try.func15, Try.ntmps15
    go_wp2
    go_ret
    exact ⟨one H.out, rfl⟩

set_option maxHeartbeats 400000 in
theorem rdiv_ok (a b : Int) (w : World) (h : 1 ≤ b) (ha : I64 a) :
    Calls Try.prog 14 #[.int .i64 a, .int .i64 b] w fun e w' => e = .returned (.int .i64 (a / b)) ∧ w = w' := by
  obtain ⟨h0, h1⟩ := ha
  have m := tmod_cases a b h
  have c := tdiv_cases a b h
  have d := ediv_bd a b h
  by_cases hm : a.tmod b = 0
  · have H := Lib.hid (c.1 (by omega))
    have hm1 : (a.tmod b == 0) = true := beq_iff_eq.2 hm
    have hm2 : (a.tmod b != 0) = false := by simp [hm]
    clear m c d hm
    go_enter Try.func14, Try.ntmps14
    go_wp2
    go_ret
    exact ⟨one H.out, rfl⟩
  · have hm1 : (a.tmod b == 0) = false := beq_eq_false_iff_ne.2 hm
    have hm2 : (a.tmod b != 0) = true := by simp [hm]
    by_cases hn : a < 0
    · have e : a.tmod b < 0 := by
        by_cases h2 : 0 ≤ a.tmod b
        · have := (m.1 h2).2; omega
        · omega
      have e : wrap64 (a.tdiv b - 1) = a / b := by
        rw [c.2 e, w64 (by omega) (by omega)]; omega
      have H := Lib.hid e
      clear m c d e hm
      go_enter Try.func14, Try.ntmps14
      go_wp2
      go_ret
      exact ⟨one H.out, rfl⟩
    · have e : 0 ≤ a.tmod b := by
        by_cases h2 : 0 ≤ a.tmod b
        · exact h2
        · have := (m.2 (by omega)).2; omega
      have H := Lib.hid (c.1 e)
      have hn : 0 ≤ a := by omega
      clear m c d e hm hm1 hm2
      by_cases hm : a % b = 0
      · have hm1 : (a % b == 0) = true := beq_iff_eq.2 hm
        have hm2 : (a % b != 0) = false := by simp [hm]
        clear hm
        go_enter Try.func14, Try.ntmps14
        go_wp2
        go_ret
        exact ⟨rfl, rfl⟩
      · have hm1 : (a % b == 0) = false := beq_eq_false_iff_ne.2 hm
        have hm2 : (a % b != 0) = true := by simp [hm]
        clear hm
        go_enter Try.func14, Try.ntmps14
        go_wp2
        go_ret
        exact ⟨rfl, rfl⟩

set_option maxHeartbeats 400000 in
theorem rceil_ok (a b : Int) (w : World) (h : 1 ≤ b) (ha : I64 a) :
    Calls Try.prog 16 #[.int .i64 a, .int .i64 b] w fun e w' => e = .returned (.int .i64 (cdiv a b)) ∧ w = w' := by
  obtain ⟨h0, h1⟩ := ha
  have z := tmod_zero a b h
  have m := tmod_cases a b h
  have c := tdiv_cases a b h
  have d := cdiv_bd a b h h0 h1
  by_cases hm : a.tmod b = 0
  · have H := Lib.hid ((cdiv_zero (z.1 hm)).trans (c.1 (by omega)).symm)
    have hm1 : (a.tmod b == 0) = true := beq_iff_eq.2 hm
    have hm2 : (a.tmod b != 0) = false := by simp [hm]
    clear m c d hm z
    go_enter Try.func16, Try.ntmps16
    go_wp2
    go_ret
    exact ⟨one H.out.symm, rfl⟩
  · have hm1 : (a.tmod b == 0) = false := beq_eq_false_iff_ne.2 hm
    have hm2 : (a.tmod b != 0) = true := by simp [hm]
    have hz : a % b ≠ 0 := fun e => hm (z.2 e)
    rw [cdiv_one hz] at d
    by_cases hn : a ≤ 0
    · have e : a.tmod b < 0 := by
        by_cases h2 : 0 ≤ a.tmod b
        · have h5 : a = 0 := by have := (m.1 h2).2; omega
          subst h5; simp at hm
        · omega
      have H := Lib.hid ((cdiv_one hz).trans (c.2 e).symm)
      clear m c d hm z hz e
      go_enter Try.func16, Try.ntmps16
      go_wp2
      go_ret
      exact ⟨one H.out.symm, rfl⟩
    · have H := Lib.hid (cdiv_one hz)
      have H2 := Lib.hid (show wrap64 (a / b + 1) = a / b + 1 from w64 d.1 d.2)
      have hn : 1 ≤ a := by omega
      have hm1 : (a % b == 0) = false := beq_eq_false_iff_ne.2 hz
      have hm2 : (a % b != 0) = true := by simp [hz]
      clear m c d hm z hz
      go_enter Try.func16, Try.ntmps16
      go_wp2
      go_ret
      exact ⟨one (by rw [H.out]; first | rfl | exact H2.out), rfl⟩

set_option maxHeartbeats 400000 in
theorem rnext_by (a b r : Int) (w : World) (h : b < 1) :
    Calls Try.prog 18 #[.int .i64 a, .int .i64 b, .int .i64 r] w fun e w' => e = .returned (.tuple #[.int .i64 0, .int .i64 10]) ∧ w = w' := by
  go_enter Try.func18, Try.ntmps18
  go_wp2
  go_ret2
  exact ⟨rfl, rfl⟩

set_option maxHeartbeats 400000 in
theorem rnext_rest (a b r : Int) (w : World) (h : 1 ≤ b) (ha : I64 a) (hb : b ≤ 9223372036854775807) (hr : r < 0 ∨ b ≤ r) :
    Calls Try.prog 18 #[.int .i64 a, .int .i64 b, .int .i64 r] w fun e w' => e = .returned (.tuple #[.int .i64 0, .int .i64 11]) ∧ w = w' := by
  by_cases hr2 : r < 0
  · clear hr
    go_enter Try.func18, Try.ntmps18
    go_wp2
    go_ret2
    exact ⟨rfl, rfl⟩
  · have hr3 : b ≤ r := by omega
    clear hr
    go_enter Try.func18, Try.ntmps18
    go_wp2
    go_ret2
    exact ⟨rfl, rfl⟩

set_option maxHeartbeats 400000 in
theorem rnext_great (a b r : Int) (w : World) (h : 1 ≤ b) (ha : I64 a) (hb : b ≤ 9223372036854775807) (hr : 0 ≤ r) (hr' : r < b) (hg : 9223372036854775807 < a + gap a b r) :
    Calls Try.prog 18 #[.int .i64 a, .int .i64 b, .int .i64 r] w fun e w' => e = .returned (.tuple #[.int .i64 0, .int .i64 12]) ∧ w = w' := by
  have g := gap_of a b r h hr hr'
  have m := emod_bd a b h
  have hA := ha
  obtain ⟨h0, h1⟩ := ha
  by_cases hm : a % b ≤ r
  · rw [if_pos hm] at g
    rw [g] at hg
    clear g
    have hp : 0 < a := by omega
    go_enter Try.func18, Try.ntmps18
    go_wp2_with fail
    refine (rmod_ok _ _ _ h hA hb).mono ?_; rintro e w' ⟨rfl, rfl⟩
    go_wp2
    go_ret2
    exact ⟨rfl, rfl⟩
  · rw [if_neg hm] at g
    rw [g] at hg
    clear g
    have hp : 0 < a := by omega
    go_enter Try.func18, Try.ntmps18
    go_wp2_with fail
    refine (rmod_ok _ _ _ h hA hb).mono ?_; rintro e w' ⟨rfl, rfl⟩
    go_wp2
    go_ret2
    exact ⟨rfl, rfl⟩

set_option maxHeartbeats 400000 in
theorem rnext_ok (a b r : Int) (w : World) (h : 1 ≤ b) (ha : I64 a) (hb : b ≤ 9223372036854775807) (hr : 0 ≤ r) (hr' : r < b) (hg : a + gap a b r ≤ 9223372036854775807) :
    Calls Try.prog 18 #[.int .i64 a, .int .i64 b, .int .i64 r] w fun e w' => e = .returned (.tuple #[.int .i64 (a + gap a b r), .int .i64 0]) ∧ w = w' := by
  have g := gap_of a b r h hr hr'
  have m := emod_bd a b h
  have hA := ha
  obtain ⟨h0, h1⟩ := ha
  by_cases hp : 0 < a
  all_goals by_cases hm : a % b ≤ r
  all_goals first | rw [if_pos hm] at g | rw [if_neg hm] at g
  all_goals
    rw [g] at hg
    have H := Lib.hid g
    clear g
    go_enter Try.func18, Try.ntmps18
    go_wp2_with fail
    refine (rmod_ok _ _ _ h hA hb).mono ?_; rintro e w' ⟨rfl, rfl⟩
    go_wp2
    go_ret2
    exact ⟨two (by rw [H.out]; try omega) rfl, rfl⟩

set_option maxHeartbeats 1000000 in
theorem awake1 (w : World) : Calls Try.prog 13 #[] w fun e w' => e = .returned (.bool true) ∧ w = w' := by
  go_enter Try.func13, Try.ntmps13
  go_wp2_with fail
  refine (div_ok _ _ _ (by omega) (by unfold I64; omega)).mono ?_; rintro e w' ⟨rfl, rfl⟩
  go_wp2_with fail
  refine (mod_ok _ _ _ (by omega) (by unfold I64; omega) (by omega)).mono ?_; rintro e w' ⟨rfl, rfl⟩
  go_wp2_with fail
  refine (ceil_ok _ _ _ (by omega) (by unfold I64; omega)).mono ?_; rintro e w' ⟨rfl, rfl⟩
  go_wp2_with fail
  refine (next_ok _ _ _ _ (by omega) (by unfold I64; omega) (by omega) (by omega) (by omega) (by unfold gap; omega)).mono ?_; rintro e w' ⟨rfl, rfl⟩
  have hc : cdiv (-7) 3 = -2 := by decide
  have hg : gap 9 7 1 = 6 := by decide
  have hn : near 9 1 5 = 5 := by decide
  go_wp2_with fail
  refine (clamp_any _ _ _ _).mono ?_; rintro e w' ⟨rfl, rfl⟩
  go_wp2
  go_ret
  exact ⟨rfl, rfl⟩

end Go.Proofs.Ytmfkdfkoopnnpaa
