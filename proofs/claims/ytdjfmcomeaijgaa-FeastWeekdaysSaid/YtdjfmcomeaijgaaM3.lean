/- What the reference of chapter 3 returns, said of whole numbers. -/
import Derived.Test.YtdjfmcomeaijgaaM1
import Derived.Test.YtdjfmcomeaijgaaB0
import Derived.Deep.RegionHeld3
import Derived.Deep.DeepCutAuto
namespace Go.Proofs.Ytdjfmcomeaijgaa
open Go.RowKit
set_option linter.unusedVariables false
set_option linter.unusedSimpArgs false

set_option maxHeartbeats 400000 in
theorem rleap_any (h : Int) (w : World) (hh : I64 h) :
    Calls Try.prog 25 #[.int .i64 h] w fun e w' => e = .returned (.bool (leapB h)) ∧ w = w' := by
  have m := emod_bd h 19 (by omega)
  go_enter Try.func25, Try.ntmps25
  go_wp2_with fail
  refine (rmod_ok _ _ _ (by omega) hh (by omega)).mono ?_; rintro e w' ⟨rfl, rfl⟩
  go_wp2_with fail
  refine (rmod_ok _ _ _ (by omega) (by unfold I64; omega) (by omega)).mono ?_; rintro e w' ⟨rfl, rfl⟩
  go_wp2
  go_ret
  exact ⟨by unfold leapB; rfl, rfl⟩

set_option maxHeartbeats 400000 in
theorem rmay_yes (h : Int) (w : World) (hy : Yr h) :
    Calls Try.prog 26 #[.int .i64 h] w fun e w' => e = .returned (.bool true) ∧ w = w' := by
  obtain ⟨h1, h2⟩ := hy
  go_enter Try.func26, Try.ntmps26
  go_wp2
  go_ret
  exact ⟨rfl, rfl⟩

set_option maxHeartbeats 400000 in
theorem rmay_no (h : Int) (w : World) (hy : ¬ Yr h) :
    Calls Try.prog 26 #[.int .i64 h] w fun e w' => e = .returned (.bool false) ∧ w = w' := by
  unfold Yr at hy
  by_cases h1 : h < 3762
  · clear hy
    go_enter Try.func26, Try.ntmps26
    go_wp2
    go_ret
    exact ⟨rfl, rfl⟩
  · have h2 : 9999 < h := by omega
    clear hy
    go_enter Try.func26, Try.ntmps26
    go_wp2
    go_ret
    exact ⟨by simp; omega, rfl⟩

theorem mon_bd' (h : Int) (h1 : 2900 ≤ h) (h2 : h ≤ 10100) : 0 ≤ mon h ∧ mon h ≤ 130000 := by unfold mon; omega

set_option maxHeartbeats 1000000 in
theorem rmonths_any (h : Int) (w : World) (h1 : 3000 ≤ h) (h2 : h ≤ 10100) :
    Calls Try.prog 29 #[.int .i64 h] w fun e w' => e = .returned (.int .i64 (mon h)) ∧ w = w' := by
  have hr : 0 ≤ (h - 1) / 19 ∧ (h - 1) / 19 ≤ 1000 ∧ 19 * ((h - 1) / 19) + 1 ≤ h ∧ h ≤ 19 * ((h - 1) / 19) + 19 := by omega
  obtain ⟨r, hr0⟩ : ∃ r, r = (h - 1) / 19 := ⟨_, rfl⟩
  have H0 := Lib.hid hr0
  go_enter Try.func29, Try.ntmps29
  rw [← hr0] at hr
  obtain ⟨ha, hb, hc, hd⟩ := hr
  clear hr0
  have hm := Lib.hid (mon_row r)
  go_wp2_with fail
  rw [← H0.out]
  go_loop [4, 5, 6] (fun n y b => ∃ Y : Int, 19 * r + 1 ≤ Y ∧ Y ≤ h ∧ y = .int .i64 Y ∧ n = .int .i64 (mon Y)) (fun _ y _ => (h - intOf y).toNat)
  case atStart => exact ⟨19 * r + 1, by omega, by omega, rfl, by rw [hm.out]⟩
  case round =>
    obtain ⟨Y, hY1, hY2, rfl, rfl⟩ := hrel
    have bd := mon_bd' Y (by omega) (by omega)
    by_cases hlt : Y < h
    · have hs := Lib.hid (mon_succ Y)
      by_cases hl : leapB Y = true
      · have Hl := Lib.hid hl
        go_wp2_with fail
        refine (rleap_any _ _ (by unfold I64; omega)).mono ?_; rintro e w' ⟨rfl, rfl⟩
        rw [Hl.out]
        go_wp2
        go_round
        case rel => exact ⟨Y + 1, by omega, by omega, by go_num, by rw [hs.out, if_pos Hl.out]; go_num⟩
        case measure => simp [intOf]; omega
      · have Hl := Lib.hid (show leapB Y = false by simpa using hl)
        go_wp2_with fail
        refine (rleap_any _ _ (by unfold I64; omega)).mono ?_; rintro e w' ⟨rfl, rfl⟩
        rw [Hl.out]
        go_wp2
        go_round
        case rel => exact ⟨Y + 1, by omega, by omega, by go_num, by rw [hs.out, if_neg (by rw [Hl.out]; decide)]; go_num⟩
        case measure => simp [intOf]; omega
    · have e : Y = h := by omega
      subst e
      go_wp2
      go_ret
      exact ⟨rfl, rfl⟩

set_option maxHeartbeats 1000000 in
theorem rmolad_any (h : Int) (w : World) (h1 : 3000 ≤ h) (h2 : h ≤ 10100) :
    Calls Try.prog 28 #[.int .i64 h] w fun e w' => e = .returned (.agg #[.int .i64 (mday h), .int .i64 (mpart h)]) ∧ Below w.heap.size w w' := by
  have b := mon_bd h h1 h2
  go_enter Try.func28, Try.ntmps28
  go_wp2_with fail
  refine (rmonths_any _ _ h1 h2).mono ?_; rintro e w' ⟨rfl, rfl⟩
  go_wp2
  refine bodyPost_ret (v := .agg #[.int .i64 (-1373427 + (5604 + 765433 * mon h) / 25920), .int .i64 ((5604 + 765433 * mon h) % 25920)]) (by simp [results, Try.results28, go_sem]) rfl ⟨?_, ?_⟩
  · unfold mday mpart parts; rfl
  · exact (Below.refl _ _).alloc (Nat.le_refl _) _

set_option maxHeartbeats 2000000 in
theorem rput_any (h : Int) (w : World) (h1 : 3001 ≤ h) (h2 : h ≤ 10100) :
    Calls Try.prog 65 #[.int .i64 h, .agg #[.int .i64 (mday h), .int .i64 (mpart h)]] w fun e w' => e = .returned (.int .i64 (put1 h)) ∧ Below w.heap.size w w' := by
  have b := mday_bd h (by omega) h2
  have c := mpart_bd h
  have hI : I64 (mday h) := ⟨by omega, by omega⟩
  go_enter Try.func65, Try.ntmps65
  go_wp2_with fail
  refine (rweekday_any _ _ hI).mono ?_; rintro e w' ⟨rfl, rfl⟩
  go_wp2_with fail
  refine (rleap_any _ _ (by unfold I64; omega)).mono ?_; rintro e w' ⟨rfl, rfl⟩
  go_wp2_with fail
  refine (rleap_any _ _ (by unfold I64; omega)).mono ?_; rintro e w' ⟨rfl, rfl⟩
  go_wp2
  all_goals
    go_ret
    refine ⟨one ?_, (Below.refl _ _).alloc (Nat.le_refl _) _⟩
    unfold put1 putB
    generalize leapB h = l1 at *
    generalize leapB (h - 1) = l2 at *
    generalize mday h = d at *
    generalize mpart h = p at *
    clear hI
    cases l1 <;> cases l2
    all_goals
      simp only [Bool.or_eq_true, Bool.and_eq_true, Bool.not_eq_true', Bool.not_eq_false', decide_eq_true_eq, decide_eq_false_iff_not, beq_iff_eq, beq_eq_false_iff_ne, Bool.not_true, Bool.not_false, Bool.false_eq_true, and_true, and_false, or_false, or_true, false_or, true_and, false_and, not_true_eq_false, not_false_eq_true, not_or, reduceCtorEq, ne_eq] at *
      repeat' split
      all_goals omega

set_option maxHeartbeats 2000000 in
theorem rdelay_any (h : Int) (w : World) (h1 : 3001 ≤ h) (h2 : h ≤ 10100) :
    Calls Try.prog 33 #[.int .i64 h] w fun e w' => e = .returned (.int .i64 (dly h)) ∧ Below w.heap.size w w' := by
  have b := mday_bd h (by omega) h2
  have c := mpart_bd h
  have p := put_bd h
  have hI : I64 (mday h + put1 h) := ⟨by omega, by omega⟩
  go_enter Try.func33, Try.ntmps33
  go_wp2_with fail
  refine (rmolad_any _ _ (by omega) (by omega)).mono ?_; rintro e w1 ⟨rfl, hb1⟩
  have hz := hb1.size
  go_wp2_with fail
  refine (rput_any _ _ (by omega) (by omega)).mono ?_; rintro e w2 ⟨rfl, hb2⟩
  obtain ⟨hc2, hf2⟩ := bcell hb2
  have hz2 : w1.heap.size + 1 ≤ w2.heap.size := by have := hb2.size; simp at this; omega
  have hB : Below w.heap.size w w2 := (hb1.alloc hz _).trans (hb2.mono (by simp; omega))
  clear hb1 hb2
  go_wp2_with fail
  refine (rweekday_any _ _ hI).mono ?_; rintro e w' ⟨rfl, rfl⟩
  go_wp2
  all_goals
    go_ret
    refine ⟨one ?_, hB⟩
    unfold dly offB
    generalize put1 h = p at *
    generalize mday h = d at *
    clear hI hB
    simp only [Bool.or_eq_true, Bool.and_eq_true, Bool.not_eq_true', Bool.not_eq_false', decide_eq_true_eq, decide_eq_false_iff_not, beq_iff_eq, beq_eq_false_iff_ne, Bool.not_true, Bool.not_false, Bool.false_eq_true, and_true, and_false, or_false, or_true, false_or, true_and, false_and, not_true_eq_false, not_false_eq_true, not_or, reduceCtorEq, ne_eq] at *
    repeat' split
    all_goals omega

set_option maxHeartbeats 1000000 in
theorem rnewyear_any (h : Int) (w : World) (h1 : 3001 ≤ h) (h2 : h ≤ 10100) :
    Calls Try.prog 34 #[.int .i64 h] w fun e w' => e = .returned (.int .i64 (ny h)) ∧ Below w.heap.size w w' := by
  have b := mday_bd h (by omega) h2
  have p := dly_bd h
  go_enter Try.func34, Try.ntmps34
  go_wp2_with fail
  refine (rmolad_any _ _ (by omega) (by omega)).mono ?_; rintro e w1 ⟨rfl, hb1⟩
  have hz := hb1.size
  go_wp2_with fail
  have hcell : (w1.alloc (.cells #[.int .i64 (mday h), .int .i64 (mpart h)] 30)).cell? ⟨w1.heap.size, 0, none⟩ = some (.int .i64 (mday h)) := by simp
  have hsz : (w1.alloc (.cells #[.int .i64 (mday h), .int .i64 (mpart h)] 30)).heap.size = w1.heap.size + 1 := by simp
  have hbel := Lib.hid (hb1.alloc hz (.cells #[.int .i64 (mday h), .int .i64 (mpart h)] 30))
  generalize w1.alloc (.cells #[.int .i64 (mday h), .int .i64 (mpart h)] 30) = W0 at *
  have hsz1 := Lib.hid hsz
  have hszl : w1.heap.size < W0.heap.size := by omega
  clear hsz
  have hr : Below W0.heap.size W0 W0 := Below.refl _ _
  go_region_held3 (fun w' => w'.cell? ⟨w1.heap.size, 0, none⟩ = some (.int .i64 (mday h)) ∧ Below W0.heap.size W0 w')
    (first
      | (refine ⟨by assumption, ?_⟩; exact Below.drew (Below.refl _ _))
      | (refine keepS (by assumption) hb2 (by simpa using hszl) (Nat.le_refl _))
      | (refine keepS ⟨by assumption, by assumption⟩ hb2 (by simpa using hszl) (Nat.le_refl _))
      | go_keep)
    (first | (go_at_call 33; refine (rdelay_any _ _ (by omega) (by omega)).mono ?_; rintro e w2 ⟨rfl, hb2⟩))
  go_wp2
  go_ret
  obtain ⟨_, hh⟩ := ‹w2.cell? _ = _ ∧ Below _ _ _›
  exact ⟨one (by rw [IntWalk.i64_in _ ⟨by omega, by omega⟩]; unfold ny; rfl), hbel.out.trans (hh.mono (by omega))⟩

set_option maxHeartbeats 1000000 in
theorem rlen_any (h : Int) (w : World) (h1 : 3001 ≤ h) (h2 : h ≤ 10000) :
    Calls Try.prog 35 #[.int .i64 h] w fun e w' => e = .returned (.int .i64 (ylen h)) ∧ Below w.heap.size w w' := by
  have b := ny_bd h (by omega) (by omega)
  have c := ny_bd (h + 1) (by omega) (by omega)
  go_enter Try.func35, Try.ntmps35
  go_wp2_with fail
  refine (rnewyear_any _ _ (by omega) (by omega)).mono ?_; rintro e w1 ⟨rfl, hb1⟩
  go_wp2_with fail
  refine (rnewyear_any _ _ (by omega) (by omega)).mono ?_; rintro e w2 ⟨rfl, hb2⟩
  have hB := below_two hb1 hb2
  clear hb1 hb2
  go_wp2
  go_ret
  exact ⟨by unfold ylen; rfl, hB⟩

end Go.Proofs.Ytdjfmcomeaijgaa
