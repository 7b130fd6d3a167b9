/- The reference of chapter 6: a turn's instant, whether clocks are shifted, what they tell. -/
import Derived.Test.YtdjfmcomeaijgaaDoorZP
import Derived.Test.YtdjfmcomeaijgaaDoorZA
import Derived.Test.YtdjfmcomeaijgaaDoorZB
import Derived.Test.YtdjfmcomeaijgaaDoorGN
import Derived.Test.YtdjfmcomeaijgaaDoorGR
namespace Go.Proofs.YtdjfmcomeaijgaaDoor
open Go Go.RowKit
set_option linter.unusedVariables false
set_option linter.unusedSimpArgs false

set_option maxHeartbeats 1000000 in
theorem rzwhen_ok (b s m k d t m' k' d' t' xm xk xd xt y : Int) (w : World) (hy1 : 1 ≤ y) (hy2 : y ≤ 9999) (hx : tOk xm xk xd xt = true) (hb1 : -720 ≤ b) (hb2 : b ≤ 840) :
    Calls Tryd.prog 69 #[.agg #[.int .i64 b, .int .i64 s, .int .i64 m, .int .i64 k, .int .i64 d, .int .i64 t, .int .i64 m', .int .i64 k', .int .i64 d', .int .i64 t'], .agg #[.int .i64 xm, .int .i64 xk, .int .i64 xd, .int .i64 xt], .int .i64 y] w fun e w' => e = .returned (.int .i64 (whenV b xm xk xd xt y)) ∧ Below w.heap.size w w' := by
  have ho := tOk_iff.1 hx
  have HX := Lib.hid hx
  clear hx
  have kz := (BlockIs.new w #[.int .i64 b, .int .i64 s, .int .i64 m, .int .i64 k, .int .i64 d, .int .i64 t, .int .i64 m', .int .i64 k', .int .i64 d', .int .i64 t'] 49).alloc (.cells #[.int .i64 xm, .int .i64 xk, .int .i64 xd, .int .i64 xt] 47)
  have kx := BlockIs.new (w.alloc (.cells #[.int .i64 b, .int .i64 s, .int .i64 m, .int .i64 k, .int .i64 d, .int .i64 t, .int .i64 m', .int .i64 k', .int .i64 d', .int .i64 t'] 49)) #[.int .i64 xm, .int .i64 xk, .int .i64 xd, .int .i64 xt] 47
  rw [World.size_alloc] at kx
  have hA := ((Below.refl w.heap.size w).alloc (Nat.le_refl _) (.cells #[.int .i64 b, .int .i64 s, .int .i64 m, .int .i64 k, .int .i64 d, .int .i64 t, .int .i64 m', .int .i64 k', .int .i64 d', .int .i64 t'] 49)).alloc (by simp) (.cells #[.int .i64 xm, .int .i64 xk, .int .i64 xd, .int .i64 xt] 47)
  have nb := nth_bd xd (wk xk) (y := y) (m := xm) ⟨hy1, hy2, ho.1, ho.2.1⟩
  by_cases c : xk = 5
  · have hw := Lib.hid (show wk xk = -1 by unfold wk; rw [if_pos c])
    rw [hw.out] at nb
    have HV := Lib.hid (show whenV b xm xk xd xt y = (nthV y xm xd (-1)).1 * 1440 + xt - b by unfold whenV; rw [hw.out])
    have hc : (xk == 5) = true := beq_iff_eq.2 c
    clear c
    go_enter Tryd.func69, Tryd.ntmps69
    go_wp2_with fail
    refine (rnth_any _ _ _ _ _).mono ?_; rintro e w1 ⟨rfl, hb⟩
    have hB := Lib.hid (hA.trans (hb.mono hA.size))
    have q0 : w1.cell? ⟨w.heap.size, 0, none⟩ = some (.int .i64 b) := (kz.kept hb).cell rfl
    have q3 : w1.cell? ⟨w.heap.size + 1, 3, none⟩ = some (.int .i64 xt) := (kx.kept hb).cell rfl
    clear hb kz kx
    go_wp2
    go_ret
    exact ⟨one HV.out.symm, hB.out⟩
  · have hw := Lib.hid (show wk xk = xk by unfold wk; rw [if_neg c])
    rw [hw.out] at nb
    have HV := Lib.hid (show whenV b xm xk xd xt y = (nthV y xm xd xk).1 * 1440 + xt - b by unfold whenV; rw [hw.out])
    have hc : (xk == 5) = false := beq_eq_false_iff_ne.2 c
    clear c
    go_enter Tryd.func69, Tryd.ntmps69
    go_wp2_with fail
    refine (rnth_any _ _ _ _ _).mono ?_; rintro e w1 ⟨rfl, hb⟩
    have hB := Lib.hid (hA.trans (hb.mono hA.size))
    have q0 : w1.cell? ⟨w.heap.size, 0, none⟩ = some (.int .i64 b) := (kz.kept hb).cell rfl
    have q3 : w1.cell? ⟨w.heap.size + 1, 3, none⟩ = some (.int .i64 xt) := (kx.kept hb).cell rfl
    clear hb kz kx
    go_wp2
    go_ret
    exact ⟨one HV.out.symm, hB.out⟩

/-- The two turns of a year are never at once. -/
theorem when_ne {b m k d t m' k' d' t' y : Int} (h1 : 1 ≤ y) (h2 : y ≤ 9999) (h : tOk m k d t = true) (h' : tOk m' k' d' t' = true) (hm : m ≠ m') : whenV b m k d t y ≠ whenV b m' k' d' t' y := by
  have o := tOk_iff.1 h
  have o' := tOk_iff.1 h'
  have e := when_eq b m k d t y
  have e' := when_eq b m' k' d' t' y
  by_cases c : m < m'
  · have := day_lt h1 h2 h h' c; omega
  · have := day_lt h1 h2 h' h (show m' < m by omega); omega

set_option maxHeartbeats 2000000 in
theorem rzsummer_ok (b s m k d t m' k' d' t' u r : Int) (w : World) (hu : Tm u) (hz : zErr ⟨b, s, m, k, d, t, m', k', d', t'⟩ = 0) (hr : shiftV ⟨b, s, m, k, d, t, m', k', d', t'⟩ u = r) :
    Calls Tryd.prog 49 #[.agg #[.int .i64 b, .int .i64 s, .int .i64 m, .int .i64 k, .int .i64 d, .int .i64 t, .int .i64 m', .int .i64 k', .int .i64 d', .int .i64 t'], .int .i64 u] w fun e w' => e = .returned (.bool (decide (0 < r))) ∧ Below w.heap.size w w' := by
  have HR := Lib.hid hr
  clear hr
  obtain ⟨hb1, hb2⟩ := zErr_b hz
  have sb := zErr_sb hz
  simp only at hb1 hb2 sb
  have hA := (Below.refl w.heap.size w).alloc (Nat.le_refl _) (.cells #[.int .i64 b, .int .i64 s, .int .i64 m, .int .i64 k, .int .i64 d, .int .i64 t, .int .i64 m', .int .i64 k', .int .i64 d', .int .i64 t'] 49)
  have kz := BlockIs.new w #[.int .i64 b, .int .i64 s, .int .i64 m, .int .i64 k, .int .i64 d, .int .i64 t, .int .i64 m', .int .i64 k', .int .i64 d', .int .i64 t'] 49
  by_cases c : s = 0
  · have H := Lib.hid (HR.out.symm.trans (show shiftV ⟨b, s, m, k, d, t, m', k', d', t'⟩ u = 0 by unfold shiftV; rw [if_pos c]))
    have hc : (s == 0) = true := beq_iff_eq.2 c
    clear c
    go_enter Tryd.func49, Tryd.ntmps49
    go_wp2_with fail
    go_ret
    exact ⟨boolE (by rw [H.out]; rfl), hA⟩
  · obtain ⟨o1, o2⟩ := zErr_turns hz c
    simp only at o1 o2
    have g2 := gap_two hz c
    have hm : m ≠ m' := by unfold gapM at g2; simp only at g2; split at g2 <;> omega
    have o1 := Lib.hid o1
    have o2 := Lib.hid o2
    have hc : (s == 0) = false := beq_eq_false_iff_ne.2 c
    obtain ⟨u1, u2⟩ := hu
    have n1 : 1 ≤ (u + b) / 1440 := by omega
    have n2 : (u + b) / 1440 ≤ 3652059 := by omega
    have hyr := yr_of n1 n2
    have wne := Lib.hid (when_ne (b := b) hyr.1 hyr.2.1 o1.out o2.out hm)
    have hs0 : 0 < s := by omega
    clear hm g2
    go_enter Tryd.func49, Tryd.ntmps49
    go_wp2_with fail
    refine (rdiv_ok _ _ _ (by omega) (by unfold I64; omega)).mono ?_; rintro e w' ⟨rfl, rfl⟩
    go_wp2_with fail
    refine (rgof_any _ _ n1 n2).mono ?_; rintro e w1 ⟨rfl, hb⟩
    have hB1 := hA.trans (hb.mono hA.size)
    have hB2 := hB1.alloc hB1.size (.cells #[.int .i64 (yOf ((u + b) / 1440)), .int .i64 (mOf ((u + b) / 1440)), .int .i64 (dOf ((u + b) / 1440))] 23)
    have kz2 := (kz.kept hb).alloc (.cells #[.int .i64 (yOf ((u + b) / 1440)), .int .i64 (mOf ((u + b) / 1440)), .int .i64 (dOf ((u + b) / 1440))] 23)
    have kd := BlockIs.new w1 #[.int .i64 (yOf ((u + b) / 1440)), .int .i64 (mOf ((u + b) / 1440)), .int .i64 (dOf ((u + b) / 1440))] 23
    clear hb hB1 kz hA
    obtain ⟨z0, z1, z2, z3, z4, z5, z6, z7, z8, z9⟩ := zone_cells kz2
    have zy := kd.cell (i := 0) (v := .int .i64 (yOf ((u + b) / 1440))) rfl
    go_wp2_with fail
    have H := Lib.hid (HR.out.symm.trans (show shiftV ⟨b, s, m, k, d, t, m', k', d', t'⟩ u = _ by unfold shiftV; rw [if_neg c]))
    dsimp only at H
    generalize yOf ((u + b) / 1440) = Y at *
    generalize (w1.alloc (.cells #[.int .i64 Y, .int .i64 (mOf ((u + b) / 1440)), .int .i64 (dOf ((u + b) / 1440))] 23)) = W0 at *
    refine (rzwhen_ok b s m k d t m' k' d' t' _ _ _ _ Y _ hyr.1 hyr.2.1 o1.out hb1 hb2).mono ?_; rintro e w3 ⟨rfl, hb3⟩
    have kz3 := kz2.kept hb3
    have kd3 := kd.kept hb3
    have hB3 := hB2.trans (hb3.mono hB2.size)
    clear hb3 hB2 kz2 kd zy z0 z1 z2 z3 z4 z5 z6 z7 z8 z9
    obtain ⟨z0, z1, z2, z3, z4, z5, z6, z7, z8, z9⟩ := zone_cells kz3
    have zy := kd3.cell (i := 0) (v := .int .i64 Y) rfl
    go_wp2_with fail
    refine (rzwhen_ok b s m k d t m' k' d' t' _ _ _ _ Y _ hyr.1 hyr.2.1 o2.out hb1 hb2).mono ?_; rintro e w4 ⟨rfl, hb4⟩
    have hB4 := Lib.hid (hB3.trans (hb4.mono hB3.size))
    clear hb4 hB3 kz3 kd3 zy z0 z1 z2 z3 z4 z5 z6 z7 z8 z9
    go_wp2
    all_goals
      go_ret
      refine ⟨boolE ?_, hB4.out⟩
      rw [H.out]
      have wn := wne.out
      split
      all_goals first
        | (simp only [Bool.not_eq_true', Bool.not_eq_false', decide_eq_true_eq, decide_eq_false_iff_not, hs0, decide_true, Int.lt_irrefl, decide_false] at *; first | rfl | (exfalso; omega) | (simp; omega))
        | (simp_all; done)
        | (exfalso; simp_all; omega)

set_option maxHeartbeats 1000000 in
theorem rztold_ok (b s m k d t m' k' d' t' u q r : Int) (w : World) (hu : Tm u) (hz : zErr ⟨b, s, m, k, d, t, m', k', d', t'⟩ = 0) (hq : shiftV ⟨b, s, m, k, d, t, m', k', d', t'⟩ u = q) (hr : u + b + q = r) :
    Calls Tryd.prog 48 #[.agg #[.int .i64 b, .int .i64 s, .int .i64 m, .int .i64 k, .int .i64 d, .int .i64 t, .int .i64 m', .int .i64 k', .int .i64 d', .int .i64 t'], .int .i64 u] w fun e w' => e = .returned (.int .i64 r) ∧ Below w.heap.size w w' := by
  obtain ⟨hb1, hb2⟩ := zErr_b hz
  have sb := zErr_sb hz
  simp only at hb1 hb2 sb
  have HQ := Lib.hid hq
  have HR := Lib.hid hr
  have hA := (Below.refl w.heap.size w).alloc (Nat.le_refl _) (.cells #[.int .i64 b, .int .i64 s, .int .i64 m, .int .i64 k, .int .i64 d, .int .i64 t, .int .i64 m', .int .i64 k', .int .i64 d', .int .i64 t'] 49)
  have kz := BlockIs.new w #[.int .i64 b, .int .i64 s, .int .i64 m, .int .i64 k, .int .i64 d, .int .i64 t, .int .i64 m', .int .i64 k', .int .i64 d', .int .i64 t'] 49
  obtain ⟨u1, u2⟩ := hu
  have qc := shiftV_cases ⟨b, s, m, k, d, t, m', k', d', t'⟩ u
  rw [hq] at qc
  simp only at qc
  clear hq hr
  rcases qc with qc | ⟨qc, qn⟩
  · subst qc
    go_enter Tryd.func48, Tryd.ntmps48
    go_wp2_with fail
    refine (rzsummer_ok _ _ _ _ _ _ _ _ _ _ _ _ _ ⟨u1, u2⟩ hz HQ.out).mono ?_; rintro e w1 ⟨rfl, hb⟩
    have kz1 := kz.kept hb
    have hB := Lib.hid (hA.trans (hb.mono hA.size))
    clear hb kz
    obtain ⟨z0, z1, z2, z3, z4, z5, z6, z7, z8, z9⟩ := zone_cells kz1
    go_wp2
    go_ret
    exact ⟨one (by have := HR.out; omega), hB.out⟩
  · have q0 : decide (0 < q) = true := by simp; omega
    have qs := Lib.hid qc
    clear qc qn
    go_enter Tryd.func48, Tryd.ntmps48
    go_wp2_with fail
    refine (rzsummer_ok _ _ _ _ _ _ _ _ _ _ _ _ _ ⟨u1, u2⟩ hz HQ.out).mono ?_; rintro e w1 ⟨rfl, hb⟩
    rw [q0]
    have kz1 := kz.kept hb
    have hB := Lib.hid (hA.trans (hb.mono hA.size))
    clear hb kz
    obtain ⟨z0, z1, z2, z3, z4, z5, z6, z7, z8, z9⟩ := zone_cells kz1
    go_wp2
    go_ret
    exact ⟨one (by have := HR.out; have := qs.out; omega), hB.out⟩

end Go.Proofs.YtdjfmcomeaijgaaDoor
