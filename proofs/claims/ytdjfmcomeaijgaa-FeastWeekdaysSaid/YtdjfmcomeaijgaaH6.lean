/- What the reference of chapter 4 returns: a date's number, a number's date. -/
import Derived.Test.YtdjfmcomeaijgaaH5
namespace Go.Proofs.Ytdjfmcomeaijgaa
open Go.RowKit
set_option linter.unusedVariables false
set_option linter.unusedSimpArgs false

set_option maxHeartbeats 1000000 in
theorem rhfirst_any (w : World) : Calls Try.prog 44 #[] w fun e w' => e = .returned (.int .i64 (ny 3762)) ∧ Below w.heap.size w w' := by
  go_enter Try.func44, Try.ntmps44
  go_wp2_with fail
  refine (rnewyear_any _ _ (by omega) (by omega)).mono ?_; rintro e w1 ⟨rfl, hb1⟩
  have hB := Lib.hid hb1
  clear hb1
  go_wp2
  go_ret
  exact ⟨rfl, hB.out⟩

set_option maxHeartbeats 1000000 in
theorem rhlast_any (w : World) : Calls Try.prog 45 #[] w fun e w' => e = .returned (.int .i64 (ny 9999 + ylen 9999 - 1)) ∧ Below w.heap.size w w' := by
  have b2 := ny_bd 9999 (by omega) (by omega)
  have b3 := ylen_bd (h := 9999) (by unfold Yr; omega)
  go_enter Try.func45, Try.ntmps45
  go_wp2_with fail
  refine (rnewyear_any _ _ (by omega) (by omega)).mono ?_; rintro e w1 ⟨rfl, hb1⟩
  go_wp2_with fail
  refine (rlen_any _ _ (by omega) (by omega)).mono ?_; rintro e w2 ⟨rfl, hb2⟩
  have hB := Lib.hid (below_two hb1 hb2)
  clear hb1 hb2
  go_wp2
  go_ret
  exact ⟨rfl, hB.out⟩

set_option maxHeartbeats 1000000 in
theorem rhmay_any (h m d : Int) (w : World) : Calls Try.prog 41 #[.agg #[.int .i64 h, .int .i64 m, .int .i64 d]] w fun e w' => e = .returned (.bool (decide (HMay h m d))) ∧ Below w.heap.size w w' := by
  by_cases h1 : 1 ≤ d
  · have h1d : decide (1 ≤ d) = true := by simpa using h1
    go_enter Try.func41, Try.ntmps41
    go_wp2_with fail
    have hW0 : Below w.heap.size w (w.alloc (.cells #[.int .i64 h, .int .i64 m, .int .i64 d] 36)) := (Below.refl _ _).alloc (Nat.le_refl _) _
    have hB0 : BlockIs (w.alloc (.cells #[.int .i64 h, .int .i64 m, .int .i64 d] 36)) w.heap.size #[.int .i64 h, .int .i64 m, .int .i64 d] 36 := BlockIs.new w _ _
    generalize w.alloc (.cells #[.int .i64 h, .int .i64 m, .int .i64 d] 36) = W0 at *
    have c0 : W0.cell? ⟨w.heap.size, 0, none⟩ = some (.int .i64 h) := hB0.cell rfl
    have c1 : W0.cell? ⟨w.heap.size, 1, none⟩ = some (.int .i64 m) := hB0.cell rfl
    have c2 : W0.cell? ⟨w.heap.size, 2, none⟩ = some (.int .i64 d) := hB0.cell rfl
    have hlt := hB0.lt
    have H0 := Lib.hid hW0
    clear hB0 hW0
    go_region_held3 (fun w' => w'.cell? ⟨w.heap.size, 0, none⟩ = some (.int .i64 h) ∧ w'.cell? ⟨w.heap.size, 1, none⟩ = some (.int .i64 m) ∧ w'.cell? ⟨w.heap.size, 2, none⟩ = some (.int .i64 d) ∧ Below W0.heap.size W0 w')
      (first
        | (exact ⟨c0, c1, c2, (Below.refl _ _).drew⟩)
        | assumption
        | (refine keep3 (by assumption) hb2 hlt (Nat.le_refl _))
        | go_keep)
      (first | (go_at_call 39; refine (rhdays_any _ _ _).mono ?_; rintro e w2 ⟨rfl, hb2⟩))
    go_wp2
    go_ret
    obtain ⟨_, _, _, hh⟩ := ‹_ ∧ _ ∧ _ ∧ Below _ _ w2›
    refine ⟨congrArg (fun b => Ending.returned (Value.bool b)) (by unfold HMay; simp [h1]), H0.out.trans (hh.mono (by have := H0.out.size; omega))⟩
  · have h1d : decide (1 ≤ d) = false := by simpa using h1
    go_enter Try.func41, Try.ntmps41
    go_wp2_with fail
    have hW0 : Below w.heap.size w (w.alloc (.cells #[.int .i64 h, .int .i64 m, .int .i64 d] 36)) := (Below.refl _ _).alloc (Nat.le_refl _) _
    go_quiet (fail)
    go_wp2
    go_ret
    refine ⟨congrArg (fun b => Ending.returned (Value.bool b)) (by rw [decide_eq_false]; unfold HMay; omega), below_drewN hW0 _⟩

set_option maxHeartbeats 1000000 in
theorem rhday_ok (h m d : Int) (w : World) (c : HMay h m d) : Calls Try.prog 42 #[.agg #[.int .i64 h, .int .i64 m, .int .i64 d]] w fun e w' => e = .returned (.int .i64 (hnum h m d)) ∧ Below w.heap.size w w' := by
  obtain ⟨hy, m1, m2, d1, d2⟩ := c.yr
  have hy1 := hy.1
  have hy2 := hy.2
  have nb := ny_bd h (by omega) (by omega)
  have lb := ylen_bd hy
  have eN : hnum h m d = ny h + d - 1 + hcum h (m.toNat - 1) := by unfold hnum; omega
  have EN := Lib.hid eN
  clear eN
  go_enter Try.func42, Try.ntmps42
  go_wp2_with fail
  have hW0 : Below w.heap.size w (w.alloc (.cells #[.int .i64 h, .int .i64 m, .int .i64 d] 36)) := (Below.refl _ _).alloc (Nat.le_refl _) _
  have hB0 : BlockIs (w.alloc (.cells #[.int .i64 h, .int .i64 m, .int .i64 d] 36)) w.heap.size #[.int .i64 h, .int .i64 m, .int .i64 d] 36 := BlockIs.new w _ _
  generalize w.alloc (.cells #[.int .i64 h, .int .i64 m, .int .i64 d] 36) = W0 at *
  have c0 : W0.cell? ⟨w.heap.size, 0, none⟩ = some (.int .i64 h) := hB0.cell rfl
  have c1 : W0.cell? ⟨w.heap.size, 1, none⟩ = some (.int .i64 m) := hB0.cell rfl
  have c2 : W0.cell? ⟨w.heap.size, 2, none⟩ = some (.int .i64 d) := hB0.cell rfl
  have hlt := hB0.lt
  have H0 := Lib.hid hW0
  have HB0 := Lib.hid hB0
  clear hB0 hW0
  go_region_held3 (fun w' => w'.cell? ⟨w.heap.size, 0, none⟩ = some (.int .i64 h) ∧ w'.cell? ⟨w.heap.size, 1, none⟩ = some (.int .i64 m) ∧ w'.cell? ⟨w.heap.size, 2, none⟩ = some (.int .i64 d) ∧ Below W0.heap.size W0 w')
    (first
      | (exact ⟨c0, c1, c2, (Below.refl _ _).drew⟩)
      | assumption
      | (refine keep3 (by assumption) hb2 hlt (Nat.le_refl _))
      | go_keep)
    (first | (go_at_call 34; refine (rnewyear_any _ _ (by omega) (by omega)).mono ?_; rintro e w2 ⟨rfl, hb2⟩))
  obtain ⟨_, _, _, hh⟩ := ‹_ ∧ _ ∧ _ ∧ Below _ _ w2›
  have hW2 : Below w.heap.size w w2 := H0.out.trans (hh.mono (by have := H0.out.size; omega))
  have hB2 : BlockIs w2 w.heap.size #[.int .i64 h, .int .i64 m, .int .i64 d] 36 := HB0.out.below hh hlt
  clear hh c0 c1 c2
  go_wp2_with fail
  go_loopw [3, 4] (fun n k wr => ∃ K : Nat, (K : Int) + 1 ≤ m ∧ k = .int .i64 ((K : Int) + 1) ∧ n = .int .i64 (ny h + d - 1 + hcum h K) ∧ BlockIs wr w.heap.size #[.int .i64 h, .int .i64 m, .int .i64 d] 36 ∧ Below w.heap.size w wr) (fun _ k _ => (m - intOf k).toNat)
  case atStart => exact ⟨0, by omega, rfl, by simp [hcum]; try (rw [IntWalk.i64_in (ny h + d) ⟨by omega, by omega⟩, IntWalk.i64_in _ ⟨by omega, by omega⟩]), hB2, hW2⟩
  case round =>
    obtain ⟨K, hK, rfl, rfl, hbb, hB⟩ := hrel
    have q0 : wr.cell? ⟨w.heap.size, 0, none⟩ = some (.int .i64 h) := hbb.cell rfl
    have q1 : wr.cell? ⟨w.heap.size, 1, none⟩ = some (.int .i64 m) := hbb.cell rfl
    have bk := hcum_bd hy K (by omega)
    have bd := hdim_ge h (K + 1)
    by_cases hlt2 : (K : Int) + 1 < m
    · go_wp2_with fail
      refine (rhdays_any _ _ _).mono ?_; rintro e w3 ⟨rfl, hb3⟩
      have hbb3 := hbb.kept hb3
      have hB3 := hB.trans (hb3.mono hB.size)
      clear hb3
      go_wp2
      go_round
      case rel => exact ⟨K + 1, by omega, by go_num, by simp only [hcum]; go_num, hbb3, hB3⟩
      case measure => simp [intOf]; omega
    · have e : m.toNat - 1 = K := by omega
      go_wp2
      go_ret
      exact ⟨one (by rw [EN.out, e]), hB⟩

set_option maxHeartbeats 1000000 in
theorem rhyear_ok (n h : Int) (w : World) (hy : Yr h) (h1 : ny h ≤ n) (h2 : n < ny h + ylen h) : Calls Try.prog 68 #[.int .i64 n] w fun e w' => e = .returned (.int .i64 h) ∧ Below w.heap.size w w' := by
  have hy1 := hy.1
  have hy2 := hy.2
  have s := ny_succ h
  go_enter Try.func68, Try.ntmps68
  go_wp2_with fail
  go_loopw [3, 4, 5] (fun lo hi md wr => ∃ L U : Int, 3762 ≤ L ∧ L ≤ h ∧ h < U ∧ U ≤ 10000 ∧ lo = .int .i64 L ∧ hi = .int .i64 U ∧ Below w.heap.size w wr) (fun lo hi _ _ => (intOf hi - intOf lo).toNat)
  case atStart => exact ⟨3762, 10000, by omega, by omega, by omega, by omega, rfl, rfl, Below.refl _ _⟩
  case round =>
    obtain ⟨L, U, hL1, hL2, hU1, hU2, rfl, rfl, hB⟩ := hrel
    by_cases hlt : 1 < U - L
    · have hm : 3762 ≤ (L + U) / 2 ∧ (L + U) / 2 ≤ 9999 ∧ L < (L + U) / 2 ∧ (L + U) / 2 < U := by omega
      by_cases hle : ny ((L + U) / 2) ≤ n
      · have hq : (L + U) / 2 ≤ h := by
          by_cases c : (L + U) / 2 ≤ h
          · exact c
          · have := (ny_mono (a := h + 1) (b := (L + U) / 2) (by omega) (by omega) (by omega)).1; omega
        have hle2 : decide (ny ((L + U) / 2) ≤ n) = true := by simpa using hle
        go_wp2_with fail
        refine (rnewyear_any _ _ (by omega) (by omega)).mono ?_; rintro e w3 ⟨rfl, hb3⟩
        have hB3 := hB.trans (hb3.mono hB.size)
        clear hb3
        go_wp2
        go_round
        case rel => exact ⟨(L + U) / 2, U, by omega, by omega, by omega, by omega, rfl, rfl, hB3⟩
        case measure => simp [intOf]; omega
      · have hq : h < (L + U) / 2 := by
          by_cases c : h < (L + U) / 2
          · exact c
          · have := (ny_mono (a := (L + U) / 2) (b := h) (by omega) (by omega) (by omega)).1; omega
        have hle2 : decide (ny ((L + U) / 2) ≤ n) = false := by simpa using hle
        go_wp2_with fail
        refine (rnewyear_any _ _ (by omega) (by omega)).mono ?_; rintro e w3 ⟨rfl, hb3⟩
        have hB3 := hB.trans (hb3.mono hB.size)
        clear hb3
        go_wp2
        go_round
        case rel => exact ⟨L, (L + U) / 2, by omega, by omega, by omega, by omega, rfl, rfl, hB3⟩
        case measure => simp [intOf]; omega
    · have e : L = h := by omega
      go_wp2
      go_ret
      exact ⟨one rfl, hB⟩

set_option maxHeartbeats 1000000 in
theorem rhof_ok (h m d : Int) (w : World) (c : HMay h m d) : Calls Try.prog 46 #[.int .i64 (hnum h m d)] w fun e w' => e = .returned (.agg #[.int .i64 h, .int .i64 m, .int .i64 d]) ∧ Below w.heap.size w w' := by
  obtain ⟨hy, m1, m2, d1, d2⟩ := c.yr
  have hy1 := hy.1
  have hy2 := hy.2
  have hnb := hnum_bd c
  have nb := ny_bd h (by omega) (by omega)
  have lb := ylen_bd hy
  have eN : hnum h m d = ny h + (hcum h (m.toNat - 1) + d - 1) := by unfold hnum; omega
  have hs := hcum_step h m m1
  obtain ⟨c1, c2⟩ := c
  obtain ⟨r, hr⟩ : ∃ r, r = hcum h (m.toNat - 1) + d - 1 := ⟨_, rfl⟩
  rw [← hr] at eN
  generalize hnum h m d = n at *
  subst eN
  have HR := Lib.hid hr
  clear hr
  go_enter Try.func46, Try.ntmps46
  go_wp2_with fail
  refine (rhyear_ok _ h _ hy (by omega) (by omega)).mono ?_; rintro e w1 ⟨rfl, hb1⟩
  go_wp2_with fail
  refine (rnewyear_any _ _ (by omega) (by omega)).mono ?_; rintro e w2 ⟨rfl, hb2⟩
  have hB0 : BlockIs (w.alloc (.cells #[.int .i64 0, .int .i64 0, .int .i64 0] 36)) w.heap.size #[.int .i64 0, .int .i64 0, .int .i64 0] 36 := BlockIs.new w _ _
  have hB2 := (hB0.kept hb1).kept hb2
  have hW2 : Below w.heap.size w w2 := ((Below.refl w.heap.size w).alloc (Nat.le_refl _) _).trans ((below_two hb1 hb2).mono (by simp))
  clear hb1 hb2 hB0
  go_wp2_with fail
  go_loopw [4, 5] (fun l k wr => ∃ K : Nat, (K : Int) + 1 ≤ m ∧ k = .int .i64 ((K : Int) + 1) ∧ l = .int .i64 (r - hcum h K) ∧ BlockIs wr w.heap.size #[.int .i64 0, .int .i64 0, .int .i64 0] 36 ∧ Below w.heap.size w wr) (fun _ k _ => (m - intOf k).toNat)
  case atStart => exact ⟨0, by omega, rfl, by simp [hcum]; try (rw [show ny h + r - ny h = r by omega]; try (rw [IntWalk.i64_in _ ⟨by omega, by omega⟩])), hB2, hW2⟩
  case round =>
    obtain ⟨K, hK, rfl, rfl, hbb, hB⟩ := hrel
    have bk := hcum_bd hy K (by omega)
    have bd := hdim_ge h (K + 1)
    have hr1 : hcum h (m.toNat - 1) ≤ r ∧ r < hcum h (m.toNat - 1) + hdim h m := by have := HR.out; omega
    by_cases hlt2 : (K : Int) + 1 < m
    · have hm := hcum_mono h (K + 1) (m.toNat - 1) (by omega)
      simp only [hcum] at hm
      have hge : hdim h ((K : Int) + 1) ≤ r - hcum h K := by omega
      have hge2 : decide (hdim h ((K : Int) + 1) ≤ r - hcum h K) = true := by simpa using hge
      go_wp2_with fail
      refine (rhdays_any _ _ _).mono ?_; rintro e w3 ⟨rfl, hb3⟩
      have hbb3 := hbb.kept hb3
      have hB3 := hB.trans (hb3.mono hB.size)
      clear hb3
      go_wp2_with fail
      refine (rhdays_any _ _ _).mono ?_; rintro e w4 ⟨rfl, hb4⟩
      have hbb4 := hbb3.kept hb4
      have hB4 := hB3.trans (hb4.mono hB3.size)
      clear hb4
      go_wp2
      go_round
      case rel => exact ⟨K + 1, by omega, by go_num, by simp only [hcum]; go_num, hbb4, hB4⟩
      case measure => simp [intOf]; omega
    · have e : m.toNat - 1 = K := by omega
      have e2 : (K : Int) + 1 = m := by omega
      have hrr : r = hcum h K + d - 1 := by rw [← e]; exact HR.out
      have HK := Lib.hid hrr
      rw [e] at hr1
      rw [e2] at bd ⊢
      have hge3 : r - hcum h K < hdim h m := by omega
      have hge2 : decide (hdim h m ≤ r - hcum h K) = false := by simp; omega
      clear hrr
      go_wp2_with fail
      refine (rhdays_any _ _ _).mono ?_; rintro e w3 ⟨rfl, hb3⟩
      have hbb3 := hbb.kept hb3
      have hB3 := hB.trans (hb3.mono hB.size)
      clear hb3
      have z0 : w3.cell? ⟨w.heap.size, 0, none⟩ = some (.int .i64 0) := hbb3.cell rfl
      have z1 : w3.cell? ⟨w.heap.size, 1, none⟩ = some (.int .i64 0) := hbb3.cell rfl
      have z2 : w3.cell? ⟨w.heap.size, 2, none⟩ = some (.int .i64 0) := hbb3.cell rfl
      have f0 := hbb3.free 0
      have f1 := hbb3.free 1
      have f2 := hbb3.free 2
      go_wp2
      have bE := ((hbb3.set 0 (.int .i64 h)).set 1 (.int .i64 m)).set 2 (.int .i64 (r - hcum h K + 1))
      have hB4 := ((hB3.setCell (p := ⟨w.heap.size, 0, none⟩) (Nat.le_refl _) (.int .i64 h)).setCell (p := ⟨w.heap.size, 1, none⟩) (Nat.le_refl _) (.int .i64 m)).setCell (p := ⟨w.heap.size, 2, none⟩) (Nat.le_refl _) (.int .i64 (r - hcum h K + 1))
      have ed : r - hcum h K + 1 = d := by have := HK.out; omega
      rw [ed] at bE hB4 ⊢
      generalize (((w3.setCell ⟨w.heap.size, 0, none⟩ (.int .i64 h)).setCell ⟨w.heap.size, 1, none⟩ (.int .i64 m)).setCell ⟨w.heap.size, 2, none⟩ (.int .i64 d)) = WE at *
      have e0 : WE.cell? ⟨w.heap.size, 0, none⟩ = some (.int .i64 h) := bE.cell rfl
      have e1 : WE.cell? ⟨w.heap.size, 1, none⟩ = some (.int .i64 m) := bE.cell rfl
      have e2 : WE.cell? ⟨w.heap.size, 2, none⟩ = some (.int .i64 d) := bE.cell rfl
      refine bodyPost_ret (v := .agg #[.int .i64 h, .int .i64 m, .int .i64 d]) (by simp [results, Try.results46, go_sem, e0, e1, e2]) rfl ⟨rfl, hB4⟩

end Go.Proofs.Ytdjfmcomeaijgaa
