/- HebrewNext: the date of the next number is the next day: the walk. -/
import Derived.Test.YtdjfmcomeaijgaaH7
import Derived.Test.YtdjfmcomeaijgaaH8
namespace Go.Proofs.Ytdjfmcomeaijgaa
open Go.RowKit
set_option linter.unusedVariables false
set_option linter.unusedSimpArgs false

set_option maxHeartbeats 2000000 in
theorem hnext_walk (n h m d h2 m2 d2 : Int) (w : World) (h1 : ny 3762 ≤ n) (hn : n < ny 9999 + ylen 9999 - 1) (hd : HMay h m d) (he : hnum h m d = n) (hd2 : HMay h2 m2 d2) (he2 : hnum h2 m2 d2 = n + 1)
    (k : (d2 = d + 1 ∧ h2 = h ∧ m2 = m) ∨ (d2 = 1 ∧ d = hdim h m ∧ m2 = 1 ∧ h2 = h + 1 ∧ m = 13) ∨ (d2 = 1 ∧ d = hdim h m ∧ 1 < m2 ∧ h2 = h ∧ m2 = m + 1) ∨ (d2 = 1 ∧ d = hdim h m ∧ m2 = 7 ∧ h2 = h ∧ m = 5 ∧ leapB h = false)) :
    Calls Try.prog 12 #[.int .i64 n] w fun e w' => e = .returned (.bool true) ∧ Below w.heap.size w w' := by
  have HE := Lib.hid he
  have HE2 := Lib.hid he2
  clear he he2
  obtain ⟨hy, q1, q2, q3, q4⟩ := hd.yr
  have b1 := ny_bd 3762 (by omega) (by omega)
  have b2 := ny_bd 9999 (by omega) (by omega)
  have b3 := ylen_bd (h := 9999) (by unfold Yr; omega)
  have hy1 := hy.1
  have hy2 := hy.2
  have hI : I64 h := by unfold I64; omega
  go_enter Try.func12, Try.ntmps12
  go_wp2_with fail
  refine (rhfirst_any _).mono ?_; rintro e w1 ⟨rfl, hb1⟩
  go_wp2_with fail
  refine (rhlast_any _).mono ?_; rintro e w2 ⟨rfl, hb2⟩
  have hB2 := below_two hb1 hb2
  clear hb1 hb2
  go_wp2_with fail
  refine (hof_at _ hd HE.out).mono ?_; rintro e w3 ⟨rfl, hb3⟩
  have hB3 := hB2.trans (hb3.mono hB2.size)
  have hB3 := hB3.alloc hB3.size (.cells #[.int .i64 h, .int .i64 m, .int .i64 d] 36)
  have k3 := BlockIs.new w3 #[.int .i64 h, .int .i64 m, .int .i64 d] 36
  clear hb3 hB2
  go_wp2_with fail
  refine (hof_at _ hd2 HE2.out).mono ?_; rintro e w4 ⟨rfl, hb4⟩
  have hB4 := hB3.trans (hb4.mono hB3.size)
  have hB4 := hB4.alloc hB4.size (.cells #[.int .i64 h2, .int .i64 m2, .int .i64 d2] 36)
  have k4 := (k3.kept hb4).alloc (.cells #[.int .i64 h2, .int .i64 m2, .int .i64 d2] 36)
  have l4 := BlockIs.new w4 #[.int .i64 h2, .int .i64 m2, .int .i64 d2] 36
  clear hb4 hB3 k3 HE HE2 hd hd2
  rcases k with ⟨rfl, rfl, rfl⟩ | ⟨rfl, rfl, rfl, rfl, rfl⟩ | ⟨rfl, rfl, k1, rfl, rfl⟩ | ⟨rfl, rfl, rfl, rfl, rfl, kl⟩
  · go_wp2_with fail
    generalize (w4.alloc (.cells #[.int .i64 h2, .int .i64 m2, .int .i64 (d + 1)] 36)) = W0 at *
    refine (awake4 _).mono ?_; rintro e w5 ⟨rfl, hb5⟩
    have k5 := k4.kept hb5
    have l5 := l4.kept hb5
    have c0 : w5.cell? ⟨w3.heap.size, 0, none⟩ = _ := k5.cell rfl
    have c1 : w5.cell? ⟨w3.heap.size, 1, none⟩ = _ := k5.cell rfl
    have c2 : w5.cell? ⟨w3.heap.size, 2, none⟩ = _ := k5.cell rfl
    have d0 : w5.cell? ⟨w4.heap.size, 0, none⟩ = _ := l5.cell rfl
    have d1 : w5.cell? ⟨w4.heap.size, 1, none⟩ = _ := l5.cell rfl
    have d2 : w5.cell? ⟨w4.heap.size, 2, none⟩ = _ := l5.cell rfl
    have hB5 := Lib.hid (hB4.trans (hb5.mono hB4.size))
    clear hb5 hB4 k4 l4 k5 l5
    go_wp2
    go_ret
    exact ⟨rfl, hB5.out⟩
  · go_wp2_with fail
    generalize (w4.alloc (.cells #[.int .i64 (h + 1), .int .i64 1, .int .i64 1] 36)) = W0 at *
    have a0 : W0.cell? ⟨w3.heap.size, 0, none⟩ = some (.int .i64 h) := k4.cell rfl
    have a1 : W0.cell? ⟨w3.heap.size, 1, none⟩ = some (.int .i64 13) := k4.cell rfl
    have a2 : W0.cell? ⟨w3.heap.size, 2, none⟩ = some (.int .i64 (hdim h 13)) := k4.cell rfl
    have e0 : W0.cell? ⟨w4.heap.size, 0, none⟩ = some (.int .i64 ((h + 1))) := l4.cell rfl
    have e1 : W0.cell? ⟨w4.heap.size, 1, none⟩ = some (.int .i64 (1)) := l4.cell rfl
    have e2 : W0.cell? ⟨w4.heap.size, 2, none⟩ = some (.int .i64 1) := l4.cell rfl
    go_wp2_with fail
    go_quiet ((go_at_call 38; exact quiet_left (hdays_any _ _ _)))
    have k5 := k4.drewN nq
    have l5 := l4.drewN nq
    have hB5 := below_drewN hB4 nq
    clear k4 l4 hB4
    go_wp2_with fail
    refine (awake4 _).mono ?_; rintro e w5 ⟨rfl, hb5⟩
    have k6 := k5.kept hb5
    have l6 := l5.kept hb5
    have hB6 := Lib.hid (hB5.trans (hb5.mono hB5.size))
    clear hb5 hB5 k5 l5 a0 a1 a2 e0 e1 e2
    have a0 : w5.cell? ⟨w3.heap.size, 0, none⟩ = some (.int .i64 h) := k6.cell rfl
    have a1 : w5.cell? ⟨w3.heap.size, 1, none⟩ = some (.int .i64 13) := k6.cell rfl
    have e0 : w5.cell? ⟨w4.heap.size, 0, none⟩ = some (.int .i64 ((h + 1))) := l6.cell rfl
    have e1 : w5.cell? ⟨w4.heap.size, 1, none⟩ = some (.int .i64 (1)) := l6.cell rfl
    clear k6 l6
    go_wp2
    go_ret
    exact ⟨rfl, hB6.out⟩
  · have k2 : (m + 1 == 1) = false := beq_eq_false_iff_ne.2 (by omega)
    go_wp2_with fail
    generalize (w4.alloc (.cells #[.int .i64 h2, .int .i64 (m + 1), .int .i64 1] 36)) = W0 at *
    have a0 : W0.cell? ⟨w3.heap.size, 0, none⟩ = some (.int .i64 h2) := k4.cell rfl
    have a1 : W0.cell? ⟨w3.heap.size, 1, none⟩ = some (.int .i64 m) := k4.cell rfl
    have a2 : W0.cell? ⟨w3.heap.size, 2, none⟩ = some (.int .i64 (hdim h2 m)) := k4.cell rfl
    have e0 : W0.cell? ⟨w4.heap.size, 0, none⟩ = some (.int .i64 h2) := l4.cell rfl
    have e1 : W0.cell? ⟨w4.heap.size, 1, none⟩ = some (.int .i64 ((m + 1))) := l4.cell rfl
    have e2 : W0.cell? ⟨w4.heap.size, 2, none⟩ = some (.int .i64 1) := l4.cell rfl
    go_wp2_with fail
    go_quiet ((go_at_call 38; exact quiet_left (hdays_any _ _ _)))
    have k5 := k4.drewN nq
    have l5 := l4.drewN nq
    have hB5 := below_drewN hB4 nq
    clear k4 l4 hB4
    go_wp2_with fail
    refine (awake4 _).mono ?_; rintro e w5 ⟨rfl, hb5⟩
    have k6 := k5.kept hb5
    have l6 := l5.kept hb5
    have hB6 := Lib.hid (hB5.trans (hb5.mono hB5.size))
    clear hb5 hB5 k5 l5 a0 a1 a2 e0 e1 e2
    have a0 : w5.cell? ⟨w3.heap.size, 0, none⟩ = some (.int .i64 h2) := k6.cell rfl
    have a1 : w5.cell? ⟨w3.heap.size, 1, none⟩ = some (.int .i64 m) := k6.cell rfl
    have e0 : w5.cell? ⟨w4.heap.size, 0, none⟩ = some (.int .i64 h2) := l6.cell rfl
    have e1 : w5.cell? ⟨w4.heap.size, 1, none⟩ = some (.int .i64 ((m + 1))) := l6.cell rfl
    clear k6 l6
    go_wp2
    go_ret
    exact ⟨rfl, hB6.out⟩
  · have KL := Lib.hid kl
    clear kl
    go_wp2_with fail
    generalize (w4.alloc (.cells #[.int .i64 h2, .int .i64 7, .int .i64 1] 36)) = W0 at *
    have a0 : W0.cell? ⟨w3.heap.size, 0, none⟩ = some (.int .i64 h2) := k4.cell rfl
    have a1 : W0.cell? ⟨w3.heap.size, 1, none⟩ = some (.int .i64 5) := k4.cell rfl
    have a2 : W0.cell? ⟨w3.heap.size, 2, none⟩ = some (.int .i64 (hdim h2 5)) := k4.cell rfl
    have e0 : W0.cell? ⟨w4.heap.size, 0, none⟩ = some (.int .i64 h2) := l4.cell rfl
    have e1 : W0.cell? ⟨w4.heap.size, 1, none⟩ = some (.int .i64 (7)) := l4.cell rfl
    have e2 : W0.cell? ⟨w4.heap.size, 2, none⟩ = some (.int .i64 1) := l4.cell rfl
    go_wp2_with fail
    go_quiet ((go_at_call 38; exact quiet_left (hdays_any _ _ _)))
    have k5 := k4.drewN nq
    have l5 := l4.drewN nq
    have hB5 := below_drewN hB4 nq
    clear k4 l4 hB4
    go_wp2_with fail
    refine (awake4 _).mono ?_; rintro e w5 ⟨rfl, hb5⟩
    have k6 := k5.kept hb5
    have l6 := l5.kept hb5
    have hB6 := Lib.hid (hB5.trans (hb5.mono hB5.size))
    clear hb5 hB5 k5 l5 a0 a1 a2 e0 e1 e2
    have a0 : w5.cell? ⟨w3.heap.size, 0, none⟩ = some (.int .i64 h2) := k6.cell rfl
    have a1 : w5.cell? ⟨w3.heap.size, 1, none⟩ = some (.int .i64 5) := k6.cell rfl
    have e0 : w5.cell? ⟨w4.heap.size, 0, none⟩ = some (.int .i64 h2) := l6.cell rfl
    have e1 : w5.cell? ⟨w4.heap.size, 1, none⟩ = some (.int .i64 (7)) := l6.cell rfl
    clear k6 l6
    go_wp2_with fail
    refine (leap_any _ _ hI).mono ?_; rintro e w' ⟨rfl, rfl⟩
    rw [KL.out]
    go_wp2
    go_ret
    exact ⟨rfl, hB6.out⟩

set_option maxHeartbeats 2000000 in
theorem walk_HebrewNext (n : Int) (wn : (Lit.int .i64 n).wf = true) (w : World) : Calls Try.prog 12 #[.int .i64 n] w fun e w' => e = .returned (.bool true) ∧ Below w.heap.size w w' := by
  clear wn
  by_cases h1 : ny 3762 ≤ n
  · by_cases h2 : n < ny 9999 + ylen 9999 - 1
    · obtain ⟨h, m, d, hd, he⟩ := hdate_at n h1 (by rw [ny_10000]; omega)
      obtain ⟨h', m', d', hd', he', k⟩ := hnext hd (by omega)
      exact hnext_walk n h m d h' m' d' w h1 h2 hd he hd' (by rw [he', he]) k
    · have h2 : ny 9999 + ylen 9999 - 1 ≤ n := by omega
      go_enter Try.func12, Try.ntmps12
      go_wp2_with fail
      refine (rhfirst_any _).mono ?_; rintro e w1 ⟨rfl, hb1⟩
      go_wp2_with fail
      refine (rhlast_any _).mono ?_; rintro e w2 ⟨rfl, hb2⟩
      go_wp2_with fail
      refine (awake4 _).mono ?_; rintro e w3 ⟨rfl, hb3⟩
      have hB := Lib.hid (below_two (below_two hb1 hb2) hb3)
      clear hb1 hb2 hb3
      go_wp2
      go_ret
      exact ⟨rfl, hB.out⟩
  · have h1 : n < ny 3762 := by omega
    go_enter Try.func12, Try.ntmps12
    go_wp2_with fail
    refine (rhfirst_any _).mono ?_; rintro e w1 ⟨rfl, hb1⟩
    go_wp2_with fail
    refine (awake4 _).mono ?_; rintro e w3 ⟨rfl, hb3⟩
    have hB := Lib.hid (below_two hb1 hb3)
    clear hb1 hb3
    go_wp2
    go_ret
    exact ⟨rfl, hB.out⟩

end Go.Proofs.Ytdjfmcomeaijgaa
