/- What the reference's Nth returns, said of whole numbers. -/
import Derived.Test.YtdjfmcomeaijgaaDoorGR
namespace Go.Proofs.YtdjfmcomeaijgaaDoor
open Go.RowKit
set_option linter.unusedVariables false
set_option linter.unusedSimpArgs false

/-- How many days of a weekday are met, the first i days seen, and the last of them: g is the first one's place. -/
def metN (g i : Int) : Int := if i ≤ g then 0 else (i - 1 - g) / 7 + 1
def lastN (f g i : Int) : Int := if i ≤ g then 0 else f + g + 7 * ((i - 1 - g) / 7)
theorem met_skip {g i : Int} (hg : 0 ≤ g) (hi : 0 ≤ i) (h : (i - g) % 7 ≠ 0) : metN g (i + 1) = metN g i := by
  unfold metN
  by_cases c : i ≤ g
  · rw [if_pos c, if_pos (by omega)]
  · rw [if_neg c, if_neg (by omega)]; omega
theorem last_skip {f g i : Int} (hg : 0 ≤ g) (hi : 0 ≤ i) (h : (i - g) % 7 ≠ 0) : lastN f g (i + 1) = lastN f g i := by
  unfold lastN
  by_cases c : i ≤ g
  · rw [if_pos c, if_pos (by omega)]
  · rw [if_neg c, if_neg (by omega)]; omega
theorem met_hit {g i : Int} (hg : 0 ≤ g) (hg6 : g ≤ 6) (hi : 0 ≤ i) (h : (i - g) % 7 = 0) : metN g (i + 1) = metN g i + 1 := by
  unfold metN
  by_cases c : i ≤ g
  · rw [if_pos c, if_neg (by omega)]; omega
  · rw [if_neg c, if_neg (by omega)]; omega
theorem last_hit {f g i : Int} (hg : 0 ≤ g) (hg6 : g ≤ 6) (hi : 0 ≤ i) (h : (i - g) % 7 = 0) : lastN f g (i + 1) = f + i := by
  unfold lastN
  rw [if_neg (by omega)]; omega
theorem met_val {g i : Int} (hg : 0 ≤ g) (hg6 : g ≤ 6) (hi : 0 ≤ i) (h : (i - g) % 7 = 0) : i = g + 7 * metN g i := by
  unfold metN
  by_cases c : i ≤ g
  · rw [if_pos c]; omega
  · rw [if_neg c]; omega
theorem met_bd {g i : Int} (hg : 0 ≤ g) (hi : 0 ≤ i) (hi2 : i ≤ 31) : 0 ≤ metN g i ∧ metN g i ≤ 5 := by
  unfold metN; split <;> omega
theorem met_zero {g : Int} (hg : 0 ≤ g) : metN g 0 = 0 := by unfold metN; rw [if_pos hg]
theorem last_zero {f g : Int} (hg : 0 ≤ g) : lastN f g 0 = 0 := by unfold lastN; rw [if_pos hg]
theorem last_end {f g i : Int} (hg : 0 ≤ g) (hi : g < i) : lastN f g i = f + g + (f + i - 1 - (f + g)) / 7 * 7 := by
  unfold lastN; rw [if_neg (by omega)]; omega

set_option maxHeartbeats 1000000 in
theorem rnth_nomonth (y m wd k : Int) (w : World) (hm : ¬ OkM y m) : Calls Tryd.prog 34 #[.int .i64 y, .int .i64 m, .int .i64 wd, .int .i64 k] w
    fun e w' => e = .returned (.tuple #[.int .i64 0, .int .i64 20]) ∧ Below w.heap.size w w' := by
  have hd := Lib.hid (dim_no hm)
  go_enter Tryd.func34, Tryd.ntmps34
  go_wp2_with fail
  refine (rgdays_any _ _ _).mono ?_; rintro e w' ⟨rfl, rfl⟩
  rw [hd.out]
  go_wp2
  go_ret2
  exact ⟨rfl, Below.refl _ _⟩

set_option maxHeartbeats 1000000 in
theorem rnth_no (y m wd k : Int) (w : World) (hm : OkM y m) (hn : ¬ OkN wd k) : Calls Tryd.prog 34 #[.int .i64 y, .int .i64 m, .int .i64 wd, .int .i64 k] w
    fun e w' => e = .returned (.tuple #[.int .i64 0, .int .i64 22]) ∧ Below w.heap.size w w' := by
  have hd := dim_ok hm
  have hdb := dim_bd y m
  have hd0 : (dim y m == 0) = false := beq_eq_false_iff_ne.2 (by omega)
  have hc : wd < 0 ∨ (0 ≤ wd ∧ 6 < wd) ∨ (0 ≤ wd ∧ wd ≤ 6 ∧ (k != -1) = true ∧ k < 1) ∨ (0 ≤ wd ∧ wd ≤ 6 ∧ (k != -1) = true ∧ 1 ≤ k ∧ 5 < k) := by
    unfold OkN at hn
    by_cases c1 : wd < 0
    · exact .inl c1
    by_cases c2 : 6 < wd
    · exact .inr (.inl ⟨by omega, c2⟩)
    have c5 : (k != -1) = true := by rw [bne_iff_ne]; omega
    by_cases c3 : k < 1
    · exact .inr (.inr (.inl ⟨by omega, by omega, c5, c3⟩))
    · exact .inr (.inr (.inr ⟨by omega, by omega, c5, by omega, by omega⟩))
  clear hn
  rcases hc with hc | ⟨hc, hc2⟩ | ⟨hc, hc2, hc3, hc4⟩ | ⟨hc, hc2, hc3, hc4, hc5⟩
  all_goals
    go_enter Tryd.func34, Tryd.ntmps34
    go_wp2_with fail
    refine (rgdays_any _ _ _).mono ?_; rintro e w' ⟨rfl, rfl⟩
    go_wp2
    go_ret2
    exact ⟨rfl, Below.refl _ _⟩

/-- The answer, by places in the month. -/
def nthAt (f g days k : Int) : Int × Int := if k = -1 then (lastN f g days, 0) else if g + 7 * (k - 1) < days then (f + (g + 7 * (k - 1)), 0) else (0, 22)

set_option maxHeartbeats 2000000 in
theorem rnth_ok (y m wd k f g r1 r2 : Int) (w : World) (hm : OkM y m) (n1 : 0 ≤ wd) (n2 : wd ≤ 6) (n3 : k = -1 ∨ (1 ≤ k ∧ k ≤ 5)) (hF : fst1 y m = f) (hG : gap f 7 wd = g) (hr : nthAt f g (dim y m) k = (r1, r2)) :
    Calls Tryd.prog 34 #[.int .i64 y, .int .i64 m, .int .i64 wd, .int .i64 k] w
    fun e w' => e = .returned (.tuple #[.int .i64 r1, .int .i64 r2]) ∧ Below w.heap.size w w' := by
  have hd := dim_ok hm
  have hdb := dim_bd y m
  have hd0 : (dim y m == 0) = false := beq_eq_false_iff_ne.2 (by omega)
  have hf := fst_bd hm
  have hone := may_one hm
  have hg := gap_bd f 7 wd (by omega)
  have hgm : (f + gap f 7 wd) % 7 = wd := gap_mod _ _ _ n1 (by omega)
  have hnum := Lib.hid (show num y m 1 = f from hF)
  rw [hG] at hg hgm
  rw [hF] at hf
  clear hF hG
  have hkk : ((k != -1) = false ∧ (k == -1) = true ∧ k = -1) ∨ ((k != -1) = true ∧ (k == -1) = false ∧ 1 ≤ k ∧ k ≤ 5) := by
    rcases n3 with c | c
    · left; subst c; exact ⟨rfl, rfl, rfl⟩
    · right; exact ⟨by rw [bne_iff_ne]; omega, beq_eq_false_iff_ne.2 (by omega), c.1, c.2⟩
  clear n3
  have ez : metN g 0 = 0 := met_zero hg.1
  have el : lastN f g 0 = 0 := last_zero hg.1
  have EZ := Lib.hid ez
  have EL := Lib.hid el
  have HGM := Lib.hid hgm
  clear ez el hgm
  rcases hkk with ⟨k1, k2, k3⟩ | ⟨k1, k2, k3, k4⟩
  · have K3 := Lib.hid k3
    have hres : (lastN f g (dim y m), 0) = (r1, r2) := by rw [← hr]; unfold nthAt; rw [if_pos k3]
    obtain ⟨q1, q2⟩ := Prod.mk.inj hres
    have Q1 := Lib.hid q1
    have Q2 := Lib.hid q2
    clear hr q1 q2
    have kneg : k < 0 := by omega
    clear k3 hres
    go_enter Tryd.func34, Tryd.ntmps34
    go_wp2_with fail
    refine (rgdays_any _ _ _).mono ?_; rintro e w' ⟨rfl, rfl⟩
    go_wp2_with fail
    refine (rgday_any _ _ _ _ hone).mono ?_; rintro e w1 ⟨rfl, hb1⟩
    rw [hnum.out]
    have hB := Lib.hid hb1
    clear hb1
    go_wp2_with fail
    go_loop [11, 12, 13] (fun a b c => ∃ i : Int, 0 ≤ i ∧ i ≤ dim y m ∧ c = .int .i64 i ∧ a = .int .i64 (metN g i) ∧ b = .int .i64 (lastN f g i)) (fun _ _ c => (dim y m - intOf c).toNat)
    case atStart => exact ⟨0, by omega, by omega, rfl, by rw [EZ.out], by rw [EL.out]⟩
    case round =>
      obtain ⟨i, hi1, hi2, rfl, rfl, rfl⟩ := hrel
      have mb := met_bd hg.1 hi1 (by omega : i ≤ 31)
      by_cases hlt : i < dim y m
      · by_cases hw : (f + i) % 7 = wd
        · have hz : (i - g) % 7 = 0 := by have := HGM.out; omega
          have e1 := Lib.hid (met_hit hg.1 (by omega) hi1 hz)
          have e2 := Lib.hid (last_hit (f := f) hg.1 (by omega) hi1 hz)
          have hw1 : ((f + i) % 7 == wd) = true := by rw [beq_iff_eq]; exact hw
          have hw2 : ((f + i) % 7 != wd) = false := by simp [hw]
          have hne : (metN g i + 1 == k) = false := beq_eq_false_iff_ne.2 (by omega)
          clear hw hz
          go_wp2_with fail
          refine (rgdays_any _ _ _).mono ?_; rintro e w' ⟨rfl, rfl⟩
          go_wp2_with fail
          refine (rweekday_any _ _ (by unfold I64; omega)).mono ?_; rintro e w' ⟨rfl, rfl⟩
          go_wp2
          go_round
          case rel => exact ⟨i + 1, by omega, by omega, by go_num, by rw [e1.out], by rw [e2.out]⟩
          case measure => simp [intOf]; omega
        · have hz : (i - g) % 7 ≠ 0 := by have := HGM.out; omega
          have e1 := Lib.hid (met_skip hg.1 hi1 hz)
          have e2 := Lib.hid (last_skip (f := f) hg.1 hi1 hz)
          have hw1 : ((f + i) % 7 == wd) = false := beq_eq_false_iff_ne.2 hw
          have hw2 : ((f + i) % 7 != wd) = true := by rw [bne_iff_ne]; exact hw
          clear hw hz
          go_wp2_with fail
          refine (rgdays_any _ _ _).mono ?_; rintro e w' ⟨rfl, rfl⟩
          go_wp2_with fail
          refine (rweekday_any _ _ (by unfold I64; omega)).mono ?_; rintro e w' ⟨rfl, rfl⟩
          go_wp2
          go_round
          case rel => exact ⟨i + 1, by omega, by omega, by go_num, by rw [e1.out], by rw [e2.out]⟩
          case measure => simp [intOf]; omega
      · have e : i = dim y m := by omega
        have E := Lib.hid e
        have hge : dim y m ≤ i := by omega
        clear e hlt
        go_wp2_with fail
        refine (rgdays_any _ _ _).mono ?_; rintro e w' ⟨rfl, rfl⟩
        go_wp2
        go_ret2
        exact ⟨two (by rw [E.out]; exact Q1.out) Q2.out, hB.out⟩
  · have hkn : ¬ k = -1 := by omega
    have HR := Lib.hid hr
    clear hr
    have HKN := Lib.hid hkn
    clear hkn
    go_enter Tryd.func34, Tryd.ntmps34
    go_wp2_with fail
    refine (rgdays_any _ _ _).mono ?_; rintro e w' ⟨rfl, rfl⟩
    go_wp2_with fail
    refine (rgday_any _ _ _ _ hone).mono ?_; rintro e w1 ⟨rfl, hb1⟩
    rw [hnum.out]
    have hB := Lib.hid hb1
    clear hb1
    go_wp2_with fail
    go_loop [11, 12, 13] (fun a b c => ∃ i : Int, 0 ≤ i ∧ i ≤ dim y m ∧ c = .int .i64 i ∧ a = .int .i64 (metN g i) ∧ b = .int .i64 (lastN f g i) ∧ metN g i < k) (fun _ _ c => (dim y m - intOf c).toNat)
    case atStart => exact ⟨0, by omega, by omega, rfl, by rw [EZ.out], by rw [EL.out], by rw [EZ.out]; omega⟩
    case round =>
      obtain ⟨i, hi1, hi2, rfl, rfl, rfl, hik⟩ := hrel
      have mb := met_bd hg.1 hi1 (by omega : i ≤ 31)
      by_cases hlt : i < dim y m
      · by_cases hw : (f + i) % 7 = wd
        · have hz : (i - g) % 7 = 0 := by have := HGM.out; omega
          have e1 := Lib.hid (met_hit hg.1 (by omega) hi1 hz)
          have e2 := Lib.hid (last_hit (f := f) hg.1 (by omega) hi1 hz)
          have ev := Lib.hid (met_val hg.1 (by omega) hi1 hz)
          have hw1 : ((f + i) % 7 == wd) = true := by rw [beq_iff_eq]; exact hw
          have hw2 : ((f + i) % 7 != wd) = false := by simp [hw]
          clear hw hz
          by_cases hkk : metN g i + 1 = k
          · have hne : (metN g i + 1 == k) = true := by rw [beq_iff_eq]; exact hkk
            have hc : g + 7 * (k - 1) < dim y m := by have := ev.out; omega
            have hv := Lib.hid (show f + i = f + (g + 7 * (k - 1)) by have := ev.out; omega)
            have hq : (f + (g + 7 * (k - 1)), (0 : Int)) = (r1, r2) := by rw [← HR.out]; unfold nthAt; rw [if_neg HKN.out, if_pos hc]
            obtain ⟨q1, q2⟩ := Prod.mk.inj hq
            have Q1 := Lib.hid q1
            have Q2 := Lib.hid q2
            clear hkk q1 q2 hq hc
            go_wp2_with fail
            refine (rgdays_any _ _ _).mono ?_; rintro e w' ⟨rfl, rfl⟩
            go_wp2_with fail
            refine (rweekday_any _ _ (by unfold I64; omega)).mono ?_; rintro e w' ⟨rfl, rfl⟩
            go_wp2
            go_ret2
            exact ⟨two (hv.out.trans Q1.out) Q2.out, hB.out⟩
          · have hne : (metN g i + 1 == k) = false := beq_eq_false_iff_ne.2 hkk
            go_wp2_with fail
            refine (rgdays_any _ _ _).mono ?_; rintro e w' ⟨rfl, rfl⟩
            go_wp2_with fail
            refine (rweekday_any _ _ (by unfold I64; omega)).mono ?_; rintro e w' ⟨rfl, rfl⟩
            go_wp2
            go_round
            case rel => exact ⟨i + 1, by omega, by omega, by go_num, by rw [e1.out], by rw [e2.out], by rw [e1.out]; omega⟩
            case measure => simp [intOf]; omega
        · have hz : (i - g) % 7 ≠ 0 := by have := HGM.out; omega
          have e1 := Lib.hid (met_skip hg.1 hi1 hz)
          have e2 := Lib.hid (last_skip (f := f) hg.1 hi1 hz)
          have hw1 : ((f + i) % 7 == wd) = false := beq_eq_false_iff_ne.2 hw
          have hw2 : ((f + i) % 7 != wd) = true := by rw [bne_iff_ne]; exact hw
          clear hw hz
          go_wp2_with fail
          refine (rgdays_any _ _ _).mono ?_; rintro e w' ⟨rfl, rfl⟩
          go_wp2_with fail
          refine (rweekday_any _ _ (by unfold I64; omega)).mono ?_; rintro e w' ⟨rfl, rfl⟩
          go_wp2
          go_round
          case rel => exact ⟨i + 1, by omega, by omega, by go_num, by rw [e1.out], by rw [e2.out], by rw [e1.out]; omega⟩
          case measure => simp [intOf]; omega
      · have e : i = dim y m := by omega
        have hc : ¬ g + 7 * (k - 1) < dim y m := by
          rw [← e]
          unfold metN at hik
          split at hik <;> omega
        have hge : dim y m ≤ i := by omega
        have hq : ((0 : Int), (22 : Int)) = (r1, r2) := by rw [← HR.out]; unfold nthAt; rw [if_neg HKN.out, if_neg hc]
        obtain ⟨q1, q2⟩ := Prod.mk.inj hq
        have Q1 := Lib.hid q1
        have Q2 := Lib.hid q2
        clear e hc hlt hq q1 q2
        go_wp2_with fail
        refine (rgdays_any _ _ _).mono ?_; rintro e w' ⟨rfl, rfl⟩
        go_wp2
        go_ret2
        exact ⟨two Q1.out Q2.out, hB.out⟩

theorem rnth_any (y m wd k : Int) (w : World) : Calls Tryd.prog 34 #[.int .i64 y, .int .i64 m, .int .i64 wd, .int .i64 k] w
    fun e w' => e = .returned (.tuple #[.int .i64 (nthV y m wd k).1, .int .i64 (nthV y m wd k).2]) ∧ Below w.heap.size w w' := by
  unfold nthV
  by_cases hm : OkM y m
  · rw [if_pos hm]
    by_cases hn : OkN wd k
    · rw [if_pos hn]
      obtain ⟨n1, n2, n3⟩ := hn
      have hg := gap_bd (fst1 y m) 7 wd (by omega)
      have hd := dim_ok hm
      have e : nthAt (fst1 y m) (gap (fst1 y m) 7 wd) (dim y m) k = if k = -1 then (lastW y m wd, 0) else if hit1 y m wd + 7 * (k - 1) < fst1 y m + dim y m then (hit1 y m wd + 7 * (k - 1), 0) else (0, 22) := by
        unfold nthAt
        by_cases hk : k = -1
        · rw [if_pos hk, if_pos hk, last_end hg.1 (by omega)]; rfl
        · rw [if_neg hk, if_neg hk]
          unfold hit1
          by_cases hc : gap (fst1 y m) 7 wd + 7 * (k - 1) < dim y m
          · rw [if_pos hc, if_pos (by omega)]; congr 1; omega
          · rw [if_neg hc, if_neg (by omega)]
      exact rnth_ok y m wd k _ _ _ _ w hm n1 n2 n3 rfl rfl (by rw [e])
    · rw [if_neg hn]; exact rnth_no y m wd k w hm hn
  · rw [if_neg hm]; exact rnth_nomonth y m wd k w hm

end Go.Proofs.YtdjfmcomeaijgaaDoor
