/- ZoneSteps: from minute to minute clocks go on by one, but where they are set: the walk. -/
import Derived.Test.YtdjfmcomeaijgaaDoorZH
namespace Go.Proofs.YtdjfmcomeaijgaaDoor
open Go Go.RowKit
set_option linter.unusedVariables false
set_option linter.unusedSimpArgs false

set_option maxHeartbeats 4000000 in
theorem walk_ZoneSteps (b s m k d t m' k' d' t' u : Int) (v0 : (Lit.int .i64 b).wf = true) (v1 : (Lit.int .i64 s).wf = true) (v2 : (Lit.int .i64 m).wf = true) (v3 : (Lit.int .i64 k).wf = true) (v4 : (Lit.int .i64 d).wf = true) (v5 : (Lit.int .i64 t).wf = true) (v6 : (Lit.int .i64 m').wf = true) (v7 : (Lit.int .i64 k').wf = true) (v8 : (Lit.int .i64 d').wf = true) (v9 : (Lit.int .i64 t').wf = true) (vu : (Lit.int .i64 u).wf = true) (w : World) (ht : Tab w) : Calls Tryd.prog 17 #[.agg #[.int .i64 b, .int .i64 s, .int .i64 m, .int .i64 k, .int .i64 d, .int .i64 t, .int .i64 m', .int .i64 k', .int .i64 d', .int .i64 t'], .int .i64 u] w fun e w' => e = .returned (.bool true) ∧ Below w.heap.size w w' := by
  have hA := (Below.refl w.heap.size w).alloc (Nat.le_refl _) (.cells #[.int .i64 b, .int .i64 s, .int .i64 m, .int .i64 k, .int .i64 d, .int .i64 t, .int .i64 m', .int .i64 k', .int .i64 d', .int .i64 t'] 49)
  have kA := BlockIs.new w #[.int .i64 b, .int .i64 s, .int .i64 m, .int .i64 k, .int .i64 d, .int .i64 t, .int .i64 m', .int .i64 k', .int .i64 d', .int .i64 t'] 49
  have htA := ht.below hA
  by_cases c : u < 576000 ∨ 5258879999 ≤ u
  · have c' : u < 576000 ∨ (576000 ≤ u ∧ 5258879999 ≤ u) := by omega
    clear c
    rcases c' with c | ⟨c, c2⟩
    all_goals
      go_enter Tryd.func17, Tryd.ntmps17
      go_wp2_with fail
      refine (awake6 _ htA).mono ?_; rintro e w1 ⟨rfl, hb⟩
      have k1 := kA.kept hb
      have h1 := hA.trans (hb.mono hA.size)
      have ht1 := htA.below hb
      clear hb kA hA htA
      obtain ⟨z0, z1, z2, z3, z4, z5, z6, z7, z8, z9⟩ := zone_cells k1
      have HB := Lib.hid h1
      clear h1
      go_wp2
      go_ret
      exact ⟨rfl, HB.out⟩

  · have c1 : 576000 ≤ u := by omega
    have c2 : u < 5258879999 := by omega
    clear c
    by_cases hz : zErr ⟨b, s, m, k, d, t, m', k', d', t'⟩ = 0
    · have hr : tErr ⟨b, s, m, k, d, t, m', k', d', t'⟩ u = 0 := by unfold tErr; rw [if_neg (by omega), if_neg (by omega)]
      have hr2 : tErr ⟨b, s, m, k, d, t, m', k', d', t'⟩ (u + 1) = 0 := by unfold tErr; rw [if_neg (by omega), if_neg (by omega)]
      obtain ⟨hb1, hb2⟩ := zErr_b hz
      have sb := zErr_sb hz
      simp only at hb1 hb2 sb
      obtain ⟨q1, hq1⟩ : ∃ q, shiftV ⟨b, s, m, k, d, t, m', k', d', t'⟩ u = q := ⟨_, rfl⟩
      obtain ⟨q2, hq2⟩ : ∃ q, shiftV ⟨b, s, m, k, d, t, m', k', d', t'⟩ (u + 1) = q := ⟨_, rfl⟩
      have d1 := shiftV_cases ⟨b, s, m, k, d, t, m', k', d', t'⟩ u
      have d2 := shiftV_cases ⟨b, s, m, k, d, t, m', k', d', t'⟩ (u + 1)
      rw [hq1] at d1
      rw [hq2] at d2
      simp only at d1 d2
      obtain ⟨a1, e1⟩ : ∃ x, (u + b + q1) / 1440 = x := ⟨_, rfl⟩
      obtain ⟨b1, f1⟩ : ∃ x, (u + b + q1) % 1440 = x := ⟨_, rfl⟩
      obtain ⟨a2, e2⟩ : ∃ x, (u + 1 + b + q2) / 1440 = x := ⟨_, rfl⟩
      obtain ⟨b2, f2⟩ : ∃ x, (u + 1 + b + q2) % 1440 = x := ⟨_, rfl⟩
      have g1 : 0 ≤ a1 ∧ a1 ≤ 4000000 := by omega
      have g2 : 0 ≤ a2 ∧ a2 ≤ 4000000 := by omega
      have g3 : 0 ≤ b1 ∧ b1 ≤ 1439 := by omega
      have g4 : 0 ≤ b2 ∧ b2 ≤ 1439 := by omega
      have e1 := Lib.hid e1
      have e2 := Lib.hid e2
      have f1 := Lib.hid f1
      have f2 := Lib.hid f2
      rcases d1 with d1 | ⟨d1, dn⟩ <;> rcases d2 with d2 | ⟨d2, dn2⟩ <;> (have d1 := d1.symm; subst d1; have d2 := d2.symm; subst d2)
      · skip
        have hon : (a2 - a1) * 1440 + b2 - b1 = 1 := by have := e1.out; have := e2.out; have := f1.out; have := f2.out; omega
        go_enter Tryd.func17, Tryd.ntmps17
        go_wp2_with fail
        refine (zcheck_any _ _ _ _ _ _ _ _ _ _ 0 _ hz).mono ?_; rintro e w1 ⟨rfl, hb⟩
        have k1 := kA.kept hb
        have h1 := hA.trans (hb.mono hA.size)
        have ht1 := htA.below hb
        clear hb kA hA htA
        obtain ⟨z0, z1, z2, z3, z4, z5, z6, z7, z8, z9⟩ := zone_cells k1
        go_wp2_with fail
        refine (zlocal_ok _ _ _ _ _ _ _ _ _ _ _ 0 a1 b1 _ ht1 hr hq1 e1.out f1.out).mono ?_; rintro e w2 ⟨rfl, hb⟩
        have k2 := k1.kept hb
        have h2 := h1.trans (hb.mono h1.size)
        have ht2 := ht1.below hb
        clear hb k1 h1 ht1 z0 z1 z2 z3 z4 z5 z6 z7 z8 z9
        obtain ⟨z0, z1, z2, z3, z4, z5, z6, z7, z8, z9⟩ := zone_cells k2
        go_wp2_with fail
        refine (zlocal_ok _ _ _ _ _ _ _ _ _ _ _ 0 a2 b2 _ ht2 hr2 hq2 e2.out f2.out).mono ?_; rintro e w3 ⟨rfl, hb⟩
        have k3 := k2.kept hb
        have h3 := h2.trans (hb.mono h2.size)
        have ht3 := ht2.below hb
        clear hb k2 h2 ht2 z0 z1 z2 z3 z4 z5 z6 z7 z8 z9
        obtain ⟨z0, z1, z2, z3, z4, z5, z6, z7, z8, z9⟩ := zone_cells k3
        go_wp2_with fail
        refine (zsummer_ok _ _ _ _ _ _ _ _ _ _ _ 0 _ ht3 hr hb1 hb2 hq1).mono ?_; rintro e w4 ⟨rfl, hb⟩
        have k4 := k3.kept hb
        have h4 := h3.trans (hb.mono h3.size)
        have ht4 := ht3.below hb
        clear hb k3 h3 ht3 z0 z1 z2 z3 z4 z5 z6 z7 z8 z9
        obtain ⟨z0, z1, z2, z3, z4, z5, z6, z7, z8, z9⟩ := zone_cells k4
        go_wp2_with fail
        refine (zsummer_ok _ _ _ _ _ _ _ _ _ _ _ 0 _ ht4 hr2 hb1 hb2 hq2).mono ?_; rintro e w5 ⟨rfl, hb⟩
        have k5 := k4.kept hb
        have h5 := h4.trans (hb.mono h4.size)
        have ht5 := ht4.below hb
        clear hb k4 h4 ht4 z0 z1 z2 z3 z4 z5 z6 z7 z8 z9
        obtain ⟨z0, z1, z2, z3, z4, z5, z6, z7, z8, z9⟩ := zone_cells k5
        go_wp2_with fail
        refine (awake6 _ ht5).mono ?_; rintro e w6 ⟨rfl, hb⟩
        have k6 := k5.kept hb
        have h6 := h5.trans (hb.mono h5.size)
        have ht6 := ht5.below hb
        clear hb k5 h5 ht5 z0 z1 z2 z3 z4 z5 z6 z7 z8 z9
        obtain ⟨z0, z1, z2, z3, z4, z5, z6, z7, z8, z9⟩ := zone_cells k6
        have HB := Lib.hid h6
        clear h6
        go_wp2
        go_ret
        exact ⟨rfl, HB.out⟩

      · skip
        have hon : (a2 - a1) * 1440 + b2 - b1 = 1 + s := by have := e1.out; have := e2.out; have := f1.out; have := f2.out; omega
        have hs0 : decide (0 < s) = true := by simp; omega
        go_enter Tryd.func17, Tryd.ntmps17
        go_wp2_with fail
        refine (zcheck_any _ _ _ _ _ _ _ _ _ _ 0 _ hz).mono ?_; rintro e w1 ⟨rfl, hb⟩
        have k1 := kA.kept hb
        have h1 := hA.trans (hb.mono hA.size)
        have ht1 := htA.below hb
        clear hb kA hA htA
        obtain ⟨z0, z1, z2, z3, z4, z5, z6, z7, z8, z9⟩ := zone_cells k1
        go_wp2_with fail
        refine (zlocal_ok _ _ _ _ _ _ _ _ _ _ _ 0 a1 b1 _ ht1 hr hq1 e1.out f1.out).mono ?_; rintro e w2 ⟨rfl, hb⟩
        have k2 := k1.kept hb
        have h2 := h1.trans (hb.mono h1.size)
        have ht2 := ht1.below hb
        clear hb k1 h1 ht1 z0 z1 z2 z3 z4 z5 z6 z7 z8 z9
        obtain ⟨z0, z1, z2, z3, z4, z5, z6, z7, z8, z9⟩ := zone_cells k2
        go_wp2_with fail
        refine (zlocal_ok _ _ _ _ _ _ _ _ _ _ _ s a2 b2 _ ht2 hr2 hq2 e2.out f2.out).mono ?_; rintro e w3 ⟨rfl, hb⟩
        have k3 := k2.kept hb
        have h3 := h2.trans (hb.mono h2.size)
        have ht3 := ht2.below hb
        clear hb k2 h2 ht2 z0 z1 z2 z3 z4 z5 z6 z7 z8 z9
        obtain ⟨z0, z1, z2, z3, z4, z5, z6, z7, z8, z9⟩ := zone_cells k3
        go_wp2_with fail
        refine (zsummer_ok _ _ _ _ _ _ _ _ _ _ _ 0 _ ht3 hr hb1 hb2 hq1).mono ?_; rintro e w4 ⟨rfl, hb⟩
        have k4 := k3.kept hb
        have h4 := h3.trans (hb.mono h3.size)
        have ht4 := ht3.below hb
        clear hb k3 h3 ht3 z0 z1 z2 z3 z4 z5 z6 z7 z8 z9
        obtain ⟨z0, z1, z2, z3, z4, z5, z6, z7, z8, z9⟩ := zone_cells k4
        go_wp2_with fail
        refine (zsummer_ok _ _ _ _ _ _ _ _ _ _ _ s _ ht4 hr2 hb1 hb2 hq2).mono ?_; rintro e w5 ⟨rfl, hb⟩
        have k5 := k4.kept hb
        have h5 := h4.trans (hb.mono h4.size)
        have ht5 := ht4.below hb
        clear hb k4 h4 ht4 z0 z1 z2 z3 z4 z5 z6 z7 z8 z9
        obtain ⟨z0, z1, z2, z3, z4, z5, z6, z7, z8, z9⟩ := zone_cells k5
        go_wp2_with fail
        refine (awake6 _ ht5).mono ?_; rintro e w6 ⟨rfl, hb⟩
        have k6 := k5.kept hb
        have h6 := h5.trans (hb.mono h5.size)
        have ht6 := ht5.below hb
        clear hb k5 h5 ht5 z0 z1 z2 z3 z4 z5 z6 z7 z8 z9
        obtain ⟨z0, z1, z2, z3, z4, z5, z6, z7, z8, z9⟩ := zone_cells k6
        have HB := Lib.hid h6
        clear h6
        go_wp2
        go_ret
        exact ⟨rfl, HB.out⟩

      · skip
        have hon : (a2 - a1) * 1440 + b2 - b1 = 1 - s := by have := e1.out; have := e2.out; have := f1.out; have := f2.out; omega
        have hs0 : decide (0 < s) = true := by simp; omega
        go_enter Tryd.func17, Tryd.ntmps17
        go_wp2_with fail
        refine (zcheck_any _ _ _ _ _ _ _ _ _ _ 0 _ hz).mono ?_; rintro e w1 ⟨rfl, hb⟩
        have k1 := kA.kept hb
        have h1 := hA.trans (hb.mono hA.size)
        have ht1 := htA.below hb
        clear hb kA hA htA
        obtain ⟨z0, z1, z2, z3, z4, z5, z6, z7, z8, z9⟩ := zone_cells k1
        go_wp2_with fail
        refine (zlocal_ok _ _ _ _ _ _ _ _ _ _ _ s a1 b1 _ ht1 hr hq1 e1.out f1.out).mono ?_; rintro e w2 ⟨rfl, hb⟩
        have k2 := k1.kept hb
        have h2 := h1.trans (hb.mono h1.size)
        have ht2 := ht1.below hb
        clear hb k1 h1 ht1 z0 z1 z2 z3 z4 z5 z6 z7 z8 z9
        obtain ⟨z0, z1, z2, z3, z4, z5, z6, z7, z8, z9⟩ := zone_cells k2
        go_wp2_with fail
        refine (zlocal_ok _ _ _ _ _ _ _ _ _ _ _ 0 a2 b2 _ ht2 hr2 hq2 e2.out f2.out).mono ?_; rintro e w3 ⟨rfl, hb⟩
        have k3 := k2.kept hb
        have h3 := h2.trans (hb.mono h2.size)
        have ht3 := ht2.below hb
        clear hb k2 h2 ht2 z0 z1 z2 z3 z4 z5 z6 z7 z8 z9
        obtain ⟨z0, z1, z2, z3, z4, z5, z6, z7, z8, z9⟩ := zone_cells k3
        go_wp2_with fail
        refine (zsummer_ok _ _ _ _ _ _ _ _ _ _ _ s _ ht3 hr hb1 hb2 hq1).mono ?_; rintro e w4 ⟨rfl, hb⟩
        have k4 := k3.kept hb
        have h4 := h3.trans (hb.mono h3.size)
        have ht4 := ht3.below hb
        clear hb k3 h3 ht3 z0 z1 z2 z3 z4 z5 z6 z7 z8 z9
        obtain ⟨z0, z1, z2, z3, z4, z5, z6, z7, z8, z9⟩ := zone_cells k4
        go_wp2_with fail
        refine (zsummer_ok _ _ _ _ _ _ _ _ _ _ _ 0 _ ht4 hr2 hb1 hb2 hq2).mono ?_; rintro e w5 ⟨rfl, hb⟩
        have k5 := k4.kept hb
        have h5 := h4.trans (hb.mono h4.size)
        have ht5 := ht4.below hb
        clear hb k4 h4 ht4 z0 z1 z2 z3 z4 z5 z6 z7 z8 z9
        obtain ⟨z0, z1, z2, z3, z4, z5, z6, z7, z8, z9⟩ := zone_cells k5
        go_wp2_with fail
        refine (awake6 _ ht5).mono ?_; rintro e w6 ⟨rfl, hb⟩
        have k6 := k5.kept hb
        have h6 := h5.trans (hb.mono h5.size)
        have ht6 := ht5.below hb
        clear hb k5 h5 ht5 z0 z1 z2 z3 z4 z5 z6 z7 z8 z9
        obtain ⟨z0, z1, z2, z3, z4, z5, z6, z7, z8, z9⟩ := zone_cells k6
        have HB := Lib.hid h6
        clear h6
        go_wp2
        go_ret
        exact ⟨rfl, HB.out⟩

      · skip
        have hon : (a2 - a1) * 1440 + b2 - b1 = 1 := by have := e1.out; have := e2.out; have := f1.out; have := f2.out; omega
        have hs0 : decide (0 < s) = true := by simp; omega
        go_enter Tryd.func17, Tryd.ntmps17
        go_wp2_with fail
        refine (zcheck_any _ _ _ _ _ _ _ _ _ _ 0 _ hz).mono ?_; rintro e w1 ⟨rfl, hb⟩
        have k1 := kA.kept hb
        have h1 := hA.trans (hb.mono hA.size)
        have ht1 := htA.below hb
        clear hb kA hA htA
        obtain ⟨z0, z1, z2, z3, z4, z5, z6, z7, z8, z9⟩ := zone_cells k1
        go_wp2_with fail
        refine (zlocal_ok _ _ _ _ _ _ _ _ _ _ _ s a1 b1 _ ht1 hr hq1 e1.out f1.out).mono ?_; rintro e w2 ⟨rfl, hb⟩
        have k2 := k1.kept hb
        have h2 := h1.trans (hb.mono h1.size)
        have ht2 := ht1.below hb
        clear hb k1 h1 ht1 z0 z1 z2 z3 z4 z5 z6 z7 z8 z9
        obtain ⟨z0, z1, z2, z3, z4, z5, z6, z7, z8, z9⟩ := zone_cells k2
        go_wp2_with fail
        refine (zlocal_ok _ _ _ _ _ _ _ _ _ _ _ s a2 b2 _ ht2 hr2 hq2 e2.out f2.out).mono ?_; rintro e w3 ⟨rfl, hb⟩
        have k3 := k2.kept hb
        have h3 := h2.trans (hb.mono h2.size)
        have ht3 := ht2.below hb
        clear hb k2 h2 ht2 z0 z1 z2 z3 z4 z5 z6 z7 z8 z9
        obtain ⟨z0, z1, z2, z3, z4, z5, z6, z7, z8, z9⟩ := zone_cells k3
        go_wp2_with fail
        refine (zsummer_ok _ _ _ _ _ _ _ _ _ _ _ s _ ht3 hr hb1 hb2 hq1).mono ?_; rintro e w4 ⟨rfl, hb⟩
        have k4 := k3.kept hb
        have h4 := h3.trans (hb.mono h3.size)
        have ht4 := ht3.below hb
        clear hb k3 h3 ht3 z0 z1 z2 z3 z4 z5 z6 z7 z8 z9
        obtain ⟨z0, z1, z2, z3, z4, z5, z6, z7, z8, z9⟩ := zone_cells k4
        go_wp2_with fail
        refine (zsummer_ok _ _ _ _ _ _ _ _ _ _ _ s _ ht4 hr2 hb1 hb2 hq2).mono ?_; rintro e w5 ⟨rfl, hb⟩
        have k5 := k4.kept hb
        have h5 := h4.trans (hb.mono h4.size)
        have ht5 := ht4.below hb
        clear hb k4 h4 ht4 z0 z1 z2 z3 z4 z5 z6 z7 z8 z9
        obtain ⟨z0, z1, z2, z3, z4, z5, z6, z7, z8, z9⟩ := zone_cells k5
        go_wp2_with fail
        refine (awake6 _ ht5).mono ?_; rintro e w6 ⟨rfl, hb⟩
        have k6 := k5.kept hb
        have h6 := h5.trans (hb.mono h5.size)
        have ht6 := ht5.below hb
        clear hb k5 h5 ht5 z0 z1 z2 z3 z4 z5 z6 z7 z8 z9
        obtain ⟨z0, z1, z2, z3, z4, z5, z6, z7, z8, z9⟩ := zone_cells k6
        have HB := Lib.hid h6
        clear h6
        go_wp2
        go_ret
        exact ⟨rfl, HB.out⟩

    · have h0 : zErr ⟨b, s, m, k, d, t, m', k', d', t'⟩ ≠ 0 := hz
      clear hz
      obtain ⟨r, hz⟩ : ∃ r, zErr ⟨b, s, m, k, d, t, m', k', d', t'⟩ = r := ⟨_, rfl⟩
      rw [hz] at h0
      have hne : (r != 0) = true := by simpa using h0
      have hge : decide (5258879999 ≤ u) = false := by simp; omega
      go_enter Tryd.func17, Tryd.ntmps17
      go_wp2_with fail
      refine (zcheck_any _ _ _ _ _ _ _ _ _ _ r _ hz).mono ?_; rintro e w1 ⟨rfl, hb⟩
      have k1 := kA.kept hb
      have h1 := hA.trans (hb.mono hA.size)
      have ht1 := htA.below hb
      clear hb kA hA htA
      obtain ⟨z0, z1, z2, z3, z4, z5, z6, z7, z8, z9⟩ := zone_cells k1
      go_wp2_with fail
      refine (awake6 _ ht1).mono ?_; rintro e w2 ⟨rfl, hb⟩
      have k2 := k1.kept hb
      have h2 := h1.trans (hb.mono h1.size)
      have ht2 := ht1.below hb
      clear hb k1 h1 ht1 z0 z1 z2 z3 z4 z5 z6 z7 z8 z9
      obtain ⟨z0, z1, z2, z3, z4, z5, z6, z7, z8, z9⟩ := zone_cells k2
      have HB := Lib.hid h2
      clear h2
      go_wp2
      go_ret
      exact ⟨rfl, HB.out⟩

end Go.Proofs.YtdjfmcomeaijgaaDoor
