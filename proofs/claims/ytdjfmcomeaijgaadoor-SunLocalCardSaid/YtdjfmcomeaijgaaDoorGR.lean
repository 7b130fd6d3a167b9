/- What the reference of chapter 2 returns, said of whole numbers. -/
import Derived.Test.YtdjfmcomeaijgaaDoorG3
namespace Go.Proofs.YtdjfmcomeaijgaaDoor
open Go.RowKit
set_option linter.unusedVariables false
set_option linter.unusedSimpArgs false

set_option maxHeartbeats 1000000 in
theorem rgleap_any (y : Int) (w : World) : Calls Tryd.prog 23 #[.int .i64 y] w fun e w' => e = .returned (.bool (lpB y)) ∧ w = w' := by
  have z4 := Lib.hid (tmod_zero y 4 (by omega))
  have z100 := Lib.hid (tmod_zero y 100 (by omega))
  have z400 := Lib.hid (tmod_zero y 400 (by omega))
  go_enter Tryd.func23, Tryd.ntmps23
  go_wp2
  all_goals
    go_ret
    refine ⟨boolEnd ?_, rfl⟩
    have z4 := z4.out
    have z100 := z100.out
    have z400 := z400.out
    unfold lpB
    simp only [beq_iff_eq, beq_eq_false_iff_ne, ne_eq] at *
    simp [*]
    try first | omega | (intros; omega)

set_option maxHeartbeats 1000000 in
theorem rlong_any (y : Int) (w : World) : Calls Tryd.prog 58 #[.int .i64 y] w fun e w' => e = .returned (.int .i64 (365 + lp y)) ∧ w = w' := by
  have hl : (lpB y = true ∧ 365 + lp y = 366) ∨ (lpB y = false ∧ 365 + lp y = 365) := by
    unfold lp
    cases h : lpB y with
    | true => left; exact ⟨rfl, rfl⟩
    | false => right; exact ⟨rfl, rfl⟩
  rcases hl with ⟨h1, h2⟩ | ⟨h1, h2⟩
  all_goals
    have H1 := Lib.hid h1
    have H2 := Lib.hid h2
    clear h1 h2
    go_enter Tryd.func58, Tryd.ntmps58
    go_wp2_with fail
    refine (rgleap_any _ _).mono ?_; rintro e w' ⟨rfl, rfl⟩
    rw [H1.out]
    go_wp2
    go_ret
    exact ⟨one H2.out.symm, rfl⟩

theorem dim_cases {y m : Int} (h : OkM y m) : (m = 2 ∧ lpB y = true ∧ dim y m = 29) ∨ (m = 2 ∧ lpB y = false ∧ dim y m = 28) ∨ ((m = 4 ∨ m = 6 ∨ m = 9 ∨ m = 11) ∧ dim y m = 30) ∨ ((m = 1 ∨ m = 3 ∨ m = 5 ∨ m = 7 ∨ m = 8 ∨ m = 10 ∨ m = 12) ∧ dim y m = 31) := by
  have hd : dim y m = if m = 2 then 28 + lp y else len12 m := by unfold dim; rw [if_pos h]
  obtain ⟨h1, h2, h3, h4⟩ := h
  rw [hd]
  unfold lp len12
  rcases months12 h3 h4 with e | e | e | e | e | e | e | e | e | e | e | e <;> subst e <;> cases lpB y <;> simp

set_option maxHeartbeats 1000000 in
theorem rgdays_any (y m : Int) (w : World) : Calls Tryd.prog 25 #[.int .i64 y, .int .i64 m] w fun e w' => e = .returned (.int .i64 (dim y m)) ∧ w = w' := by
  by_cases h : OkM y m
  · have hc := dim_cases h
    obtain ⟨h1, h2, h3, h4⟩ := h
    rcases hc with ⟨rfl, hl, hd⟩ | ⟨rfl, hl, hd⟩ | ⟨hm, hd⟩ | ⟨hm, hd⟩
    · have H1 := Lib.hid hl
      have H2 := Lib.hid hd
      clear hl hd
      go_enter Tryd.func25, Tryd.ntmps25
      go_wp2_with fail
      refine (rgleap_any _ _).mono ?_; rintro e w' ⟨rfl, rfl⟩
      rw [H1.out]
      go_wp2
      go_ret
      exact ⟨one H2.out.symm, rfl⟩
    · have H1 := Lib.hid hl
      have H2 := Lib.hid hd
      clear hl hd
      go_enter Tryd.func25, Tryd.ntmps25
      go_wp2_with fail
      refine (rgleap_any _ _).mono ?_; rintro e w' ⟨rfl, rfl⟩
      rw [H1.out]
      go_wp2
      go_ret
      exact ⟨one H2.out.symm, rfl⟩
    · have H2 := Lib.hid hd
      clear hd
      rcases hm with rfl | rfl | rfl | rfl
      all_goals
        go_enter Tryd.func25, Tryd.ntmps25
        go_wp2
        go_ret
        exact ⟨one H2.out.symm, rfl⟩
    · have H2 := Lib.hid hd
      clear hd
      rcases hm with rfl | rfl | rfl | rfl | rfl | rfl | rfl
      all_goals
        go_enter Tryd.func25, Tryd.ntmps25
        go_wp2
        go_ret
        exact ⟨one H2.out.symm, rfl⟩
  · rw [dim_no h]
    unfold OkM at h
    have hc : y < 1 ∨ (1 ≤ y ∧ 9999 < y) ∨ (1 ≤ y ∧ y ≤ 9999 ∧ m < 1) ∨ (1 ≤ y ∧ y ≤ 9999 ∧ 1 ≤ m ∧ 12 < m) := by omega
    clear h
    rcases hc with hc | ⟨hc, hc2⟩ | ⟨hc, hc2, hc3⟩ | ⟨hc, hc2, hc3, hc4⟩
    all_goals
      go_enter Tryd.func25, Tryd.ntmps25
      go_wp2
      go_ret
      exact ⟨rfl, rfl⟩

set_option maxHeartbeats 1000000 in
theorem rgmay_yes (y m d : Int) (w : World) (h : May y m d) : Calls Tryd.prog 28 #[.agg #[.int .i64 y, .int .i64 m, .int .i64 d]] w fun e w' => e = .returned (.bool true) ∧ Below w.heap.size w w' := by
  obtain ⟨h1, h2⟩ := h
  have hb := dim_bd y m
  have h1d : decide (1 ≤ d) = true := by simpa using h1
  go_enter Tryd.func28, Tryd.ntmps28
  go_wp2_with fail
  go_quiet ((go_at_call 25; exact quiet_left (rgdays_any _ _ _)))
  go_wp2
  go_ret
  exact ⟨by first | rfl | (simp; done) | (simp; omega), below_drewN ((Below.refl _ _).alloc (Nat.le_refl _) _) _⟩

set_option maxHeartbeats 1000000 in
theorem rgmay_no (y m d : Int) (w : World) (h : ¬ May y m d) : Calls Tryd.prog 28 #[.agg #[.int .i64 y, .int .i64 m, .int .i64 d]] w fun e w' => e = .returned (.bool false) ∧ Below w.heap.size w w' := by
  unfold May at h
  have hb := dim_bd y m
  by_cases h1 : 1 ≤ d
  · have h2 : dim y m < d := by omega
    have h1d : decide (1 ≤ d) = true := by simpa using h1
    clear h
    go_enter Tryd.func28, Tryd.ntmps28
    go_wp2_with fail
    go_quiet ((go_at_call 25; exact quiet_left (rgdays_any _ _ _)))
    go_wp2
    go_ret
    exact ⟨by first | rfl | (simp; done) | (simp; omega), below_drewN ((Below.refl _ _).alloc (Nat.le_refl _) _) _⟩
  · have h1d : decide (1 ≤ d) = false := by simpa using h1
    clear h
    go_enter Tryd.func28, Tryd.ntmps28
    go_wp2_with fail
    go_quiet (fail)
    go_wp2
    go_ret
    exact ⟨rfl, below_drewN ((Below.refl _ _).alloc (Nat.le_refl _) _) _⟩

theorem bef_one : bef 1 = 0 := by decide

set_option maxHeartbeats 2000000 in
theorem rgday_any (y m d : Int) (w : World) (h : May y m d) : Calls Tryd.prog 30 #[.agg #[.int .i64 y, .int .i64 m, .int .i64 d]] w fun e w' => e = .returned (.int .i64 (num y m d)) ∧ Below w.heap.size w w' := by
  obtain ⟨y1, y2, m1, m2, _⟩ := may_in h
  obtain ⟨d1, d2⟩ := h
  have hb := dim_bd y m
  have b1 := Lib.hid bef_one
  have cu1 := Lib.hid (cum_one y)
  go_enter Tryd.func30, Tryd.ntmps30
  go_wp2_with fail
  go_loop [3, 4] (fun n Y => ∃ k : Int, 1 ≤ k ∧ k ≤ y ∧ Y = .int .i64 k ∧ n = .int .i64 (bef k + d)) (fun _ Y => (y - intOf Y).toNat)
  case atStart => exact ⟨1, by omega, by omega, rfl, by rw [b1.out]; go_num⟩
  case round =>
    obtain ⟨k, hk1, hk2, rfl, rfl⟩ := hrel
    have bb := bef_bd k (by omega) (by omega)
    have ll := lp_01 k
    by_cases hlt : k < y
    · have hs := Lib.hid (bef_succ k)
      go_wp2_with fail
      refine (rlong_any _ _).mono ?_; rintro e w' ⟨rfl, rfl⟩
      go_wp2
      go_round
      case rel => exact ⟨k + 1, by omega, by omega, by go_num, by rw [hs.out]; go_num⟩
      case measure => simp [intOf]; omega
    · have e : k = y := by omega
      subst e
      go_wp2_with fail
      go_loop [3, 5] (fun n M => ∃ j : Int, 1 ≤ j ∧ j ≤ m ∧ M = .int .i64 j ∧ n = .int .i64 (bef k + d + cum k j)) (fun _ M => (m - intOf M).toNat)
      case atStart => exact ⟨1, by omega, by omega, rfl, by rw [cu1.out]; go_num⟩
      case round =>
        obtain ⟨j, hj1, hj2, rfl, rfl⟩ := hrel
        have cb := cum_bd k (m := j) (by omega) (by omega)
        have db := dim_bd k j
        by_cases hlt2 : j < m
        · have hs := Lib.hid (cum_succ (y := k) (m := j) ⟨by omega, by omega, by omega, by omega⟩)
          go_wp2_with fail
          refine (rgdays_any _ _ _).mono ?_; rintro e w' ⟨rfl, rfl⟩
          go_wp2
          go_round
          case rel => exact ⟨j + 1, by omega, by omega, by go_num, by rw [hs.out]; go_num⟩
          case measure => simp [intOf]; omega
        · have e : j = m := by omega
          subst e
          go_wp2
          go_ret
          exact ⟨one (by unfold num; omega), (Below.refl _ _).alloc (Nat.le_refl _) _⟩

set_option maxHeartbeats 2000000 in
theorem rgof_any (n : Int) (w : World) (h1 : 1 ≤ n) (h2 : n ≤ 3652059) : Calls Tryd.prog 32 #[.int .i64 n] w fun e w' => e = .returned (.agg #[.int .i64 (yOf n), .int .i64 (mOf n), .int .i64 (dOf n)]) ∧ Below w.heap.size w w' := by
  obtain ⟨om, on⟩ := of_may h1 h2
  obtain ⟨y1, y2, m1, m2, b1, b2, b3, b4⟩ := may_in om
  rw [on] at b1 b2 b3 b4
  have onH := Lib.hid on
  have be1 := Lib.hid bef_one
  have cu1 := Lib.hid (cum_one (yOf n))
  clear on
  go_enter Tryd.func32, Tryd.ntmps32
  go_wp2_with fail
  go_loop [0, 3] (fun r Y => ∃ k : Int, 1 ≤ k ∧ k ≤ yOf n ∧ Y = .int .i64 k ∧ r = .int .i64 (n - bef k)) (fun _ Y => (yOf n - intOf Y).toNat)
  case atStart => exact ⟨1, by omega, by omega, rfl, by rw [be1.out]; go_num⟩
  case round =>
    obtain ⟨k, hk1, hk2, rfl, rfl⟩ := hrel
    have bb := bef_bd k (by omega) (by omega)
    have ll := lp_01 k
    have hs := bef_succ k
    by_cases hlt : k < yOf n
    · have hle := bef_le (a := k + 1) (b := yOf n) (by omega)
      have hgt : 365 + lp k < n - bef k := by omega
      have hS := Lib.hid hs
      clear hs
      go_wp2_with fail
      refine (rlong_any _ _).mono ?_; rintro e w' ⟨rfl, rfl⟩
      go_wp2_with fail
      refine (rlong_any _ _).mono ?_; rintro e w' ⟨rfl, rfl⟩
      go_wp2
      go_round
      case rel => exact ⟨k + 1, by omega, by omega, by go_num, by rw [hS.out]; go_num⟩
      case measure => simp [intOf]; omega
    · have e : k = yOf n := by omega
      have hgt : n - bef k ≤ 365 + lp k := by rw [e] at hs ⊢; omega
      have E := Lib.hid e
      clear hs e
      go_wp2_with fail
      refine (rlong_any _ _).mono ?_; rintro e w' ⟨rfl, rfl⟩
      rw [E.out]
      rw [E.out] at bb ll hgt
      go_wp2_with fail
      go_loop [0, 4] (fun r M => ∃ j : Int, 1 ≤ j ∧ j ≤ mOf n ∧ M = .int .i64 j ∧ r = .int .i64 (n - bef (yOf n) - cum (yOf n) j)) (fun _ M => (mOf n - intOf M).toNat)
      case atStart => exact ⟨1, by omega, by omega, rfl, by rw [cu1.out]; go_num⟩
      case round =>
        obtain ⟨j, hj1, hj2, rfl, rfl⟩ := hrel
        have cb := cum_bd (yOf n) (m := j) (by omega) (by omega)
        have db := dim_bd (yOf n) j
        have hs := cum_succ (y := yOf n) (m := j) ⟨by omega, by omega, by omega, by omega⟩
        by_cases hlt2 : j < mOf n
        · have hle := cum_le (y := yOf n) (a := j + 1) (b := mOf n) ⟨by omega, by omega⟩ (by omega) (by omega) (by omega)
          have hgt2 : dim (yOf n) j < n - bef (yOf n) - cum (yOf n) j := by omega
          have hS := Lib.hid hs
          clear hs
          go_wp2_with fail
          refine (rgdays_any _ _ _).mono ?_; rintro e w' ⟨rfl, rfl⟩
          go_wp2_with fail
          refine (rgdays_any _ _ _).mono ?_; rintro e w' ⟨rfl, rfl⟩
          go_wp2
          go_round
          case rel => exact ⟨j + 1, by omega, by omega, by go_num, by rw [hS.out]; go_num⟩
          case measure => simp [intOf]; omega
        · have e : j = mOf n := by omega
          have hgt2 : n - bef (yOf n) - cum (yOf n) j ≤ dim (yOf n) j := by rw [e] at hs ⊢; omega
          have E2 := Lib.hid e
          have hd : n - bef (yOf n) - cum (yOf n) (mOf n) = dOf n := by have := onH.out; unfold num at this; omega
          have HD := Lib.hid hd
          clear hs e hd
          go_wp2_with fail
          refine (rgdays_any _ _ _).mono ?_; rintro e w' ⟨rfl, rfl⟩
          go_wp2
          refine bodyPost_ret (v := .agg #[.int .i64 (yOf n), .int .i64 j, .int .i64 (n - bef (yOf n) - cum (yOf n) j)]) (by simp [results, Tryd.results32, go_sem]) (by rfl) ⟨by rw [E2.out, HD.out], (Below.refl _ _).alloc (Nat.le_refl _) _⟩

end Go.Proofs.YtdjfmcomeaijgaaDoor
