/- ZoneLocals: what clocks tell at any instant is the document's: the walk. -/
import Derived.Test.YtdjfmcomeaijgaaDoorZH
namespace Go.Proofs.YtdjfmcomeaijgaaDoor
open Go Go.RowKit
set_option linter.unusedVariables false
set_option linter.unusedSimpArgs false

set_option maxHeartbeats 2000000 in
theorem walk_ZoneLocals (b s m k d t m' k' d' t' u : Int) (v0 : (Lit.int .i64 b).wf = true) (v1 : (Lit.int .i64 s).wf = true) (v2 : (Lit.int .i64 m).wf = true) (v3 : (Lit.int .i64 k).wf = true) (v4 : (Lit.int .i64 d).wf = true) (v5 : (Lit.int .i64 t).wf = true) (v6 : (Lit.int .i64 m').wf = true) (v7 : (Lit.int .i64 k').wf = true) (v8 : (Lit.int .i64 d').wf = true) (v9 : (Lit.int .i64 t').wf = true) (vu : (Lit.int .i64 u).wf = true) (w : World) (ht : Tab w) : Calls Tryd.prog 14 #[.agg #[.int .i64 b, .int .i64 s, .int .i64 m, .int .i64 k, .int .i64 d, .int .i64 t, .int .i64 m', .int .i64 k', .int .i64 d', .int .i64 t'], .int .i64 u] w fun e w' => e = .returned (.bool true) ∧ Below w.heap.size w w' := by
  have hA := (Below.refl w.heap.size w).alloc (Nat.le_refl _) (.cells #[.int .i64 b, .int .i64 s, .int .i64 m, .int .i64 k, .int .i64 d, .int .i64 t, .int .i64 m', .int .i64 k', .int .i64 d', .int .i64 t'] 49)
  have kA := BlockIs.new w #[.int .i64 b, .int .i64 s, .int .i64 m, .int .i64 k, .int .i64 d, .int .i64 t, .int .i64 m', .int .i64 k', .int .i64 d', .int .i64 t'] 49
  have htA := ht.below hA
  by_cases hr : tErr ⟨b, s, m, k, d, t, m', k', d', t'⟩ u = 0
  · obtain ⟨hz, u1, u2⟩ := tErr_0 hr
    obtain ⟨hb1, hb2⟩ := zErr_b hz
    have qb := shiftV_bd hz u
    simp only at hb1 hb2
    have hu : Tm u := ⟨by omega, by omega⟩
    obtain ⟨q, hq⟩ : ∃ q, shiftV ⟨b, s, m, k, d, t, m', k', d', t'⟩ u = q := ⟨_, rfl⟩
    rw [hq] at qb
    have hq := Lib.hid hq
    have ht0 : (decide (576000 ≤ u) && decide (u ≤ 5258879999)) = true := by simp; omega
    go_enter Tryd.func14, Tryd.ntmps14
    go_wp2_with fail
    refine (zsummer_ok _ _ _ _ _ _ _ _ _ _ _ q _ htA hr hb1 hb2 hq.out).mono ?_; rintro e w1 ⟨rfl, hb⟩
    have k1 := kA.kept hb
    have h1 := hA.trans (hb.mono hA.size)
    have ht1 := htA.below hb
    clear hb kA hA htA
    obtain ⟨z0, z1, z2, z3, z4, z5, z6, z7, z8, z9⟩ := zone_cells k1
    go_wp2_with fail
    refine (zlocal_ok _ _ _ _ _ _ _ _ _ _ _ q _ _ _ ht1 hr hq.out rfl rfl).mono ?_; rintro e w2 ⟨rfl, hb⟩
    have k2 := k1.kept hb
    have h2 := h1.trans (hb.mono h1.size)
    have ht2 := ht1.below hb
    clear hb k1 h1 ht1 z0 z1 z2 z3 z4 z5 z6 z7 z8 z9
    obtain ⟨z0, z1, z2, z3, z4, z5, z6, z7, z8, z9⟩ := zone_cells k2
    go_wp2_with fail
    refine (rzcheck_any _ _ _ _ _ _ _ _ _ _ 0 _ hz (i64_of v2) (i64_of v6)).mono ?_; rintro e w3 ⟨rfl, hb⟩
    have k3 := k2.kept hb
    have h3 := h2.trans (hb.mono h2.size)
    have ht3 := ht2.below hb
    clear hb k2 h2 ht2 z0 z1 z2 z3 z4 z5 z6 z7 z8 z9
    obtain ⟨z0, z1, z2, z3, z4, z5, z6, z7, z8, z9⟩ := zone_cells k3
    go_wp2_with fail
    refine (rztime_any _ _).mono ?_; rintro e w' ⟨rfl, rfl⟩
    rw [ht0]
    go_wp2_with fail
    refine (rztold_ok _ _ _ _ _ _ _ _ _ _ _ q _ _ hu hz hq.out rfl).mono ?_; rintro e w4 ⟨rfl, hb⟩
    have k4 := k3.kept hb
    have h4 := h3.trans (hb.mono h3.size)
    have ht4 := ht3.below hb
    clear hb k3 h3 ht3 z0 z1 z2 z3 z4 z5 z6 z7 z8 z9
    obtain ⟨z0, z1, z2, z3, z4, z5, z6, z7, z8, z9⟩ := zone_cells k4
    go_wp2_with fail
    refine (awake6 _ ht4).mono ?_; rintro e w5 ⟨rfl, hb⟩
    have k5 := k4.kept hb
    have h5 := h4.trans (hb.mono h4.size)
    have ht5 := ht4.below hb
    clear hb k4 h4 ht4 z0 z1 z2 z3 z4 z5 z6 z7 z8 z9
    obtain ⟨z0, z1, z2, z3, z4, z5, z6, z7, z8, z9⟩ := zone_cells k5
    go_wp2_with fail
    refine (rzsummer_ok _ _ _ _ _ _ _ _ _ _ _ q _ hu hz hq.out).mono ?_; rintro e w6 ⟨rfl, hb⟩
    have k6 := k5.kept hb
    have h6 := h5.trans (hb.mono h5.size)
    have ht6 := ht5.below hb
    clear hb k5 h5 ht5 z0 z1 z2 z3 z4 z5 z6 z7 z8 z9
    obtain ⟨z0, z1, z2, z3, z4, z5, z6, z7, z8, z9⟩ := zone_cells k6
    have HB := Lib.hid h6
    clear h6
    go_wp2
    go_ret
    exact ⟨rfl, HB.out⟩
  · have h0 : tErr ⟨b, s, m, k, d, t, m', k', d', t'⟩ u ≠ 0 := hr
    clear hr
    obtain ⟨r, hr⟩ : ∃ r, tErr ⟨b, s, m, k, d, t, m', k', d', t'⟩ u = r := ⟨_, rfl⟩
    rw [hr] at h0
    unfold tErr at hr
    by_cases hz : zErr ⟨b, s, m, k, d, t, m', k', d', t'⟩ = 0
    · rw [if_neg (by omega)] at hr
      have c : u < 576000 ∨ 5258879999 < u := by
        by_cases c : u < 576000 ∨ 5258879999 < u
        · exact c
        · rw [if_neg c] at hr; omega
      rw [if_pos c] at hr
      have ht0 : (decide (576000 ≤ u) && decide (u ≤ 5258879999)) = false := by simp; omega
      subst hr
      have hr : tErr ⟨b, s, m, k, d, t, m', k', d', t'⟩ u = 63 := by unfold tErr; rw [if_neg (by omega), if_pos c]
      clear c
      generalize hE : (63 : Int) = r at hr h0
      go_enter Tryd.func14, Tryd.ntmps14
      go_wp2_with fail
      refine (zsummer_no _ _ _ _ _ _ _ _ _ _ _ r _ hr h0).mono ?_; rintro e w1 ⟨rfl, hb⟩
      have k1 := kA.kept hb
      have h1 := hA.trans (hb.mono hA.size)
      have ht1 := htA.below hb
      clear hb kA hA htA
      obtain ⟨z0, z1, z2, z3, z4, z5, z6, z7, z8, z9⟩ := zone_cells k1
      go_wp2_with fail
      refine (zlocal_no _ _ _ _ _ _ _ _ _ _ _ r _ hr h0).mono ?_; rintro e w2 ⟨rfl, hb⟩
      have k2 := k1.kept hb
      have h2 := h1.trans (hb.mono h1.size)
      have ht2 := ht1.below hb
      clear hb k1 h1 ht1 z0 z1 z2 z3 z4 z5 z6 z7 z8 z9
      obtain ⟨z0, z1, z2, z3, z4, z5, z6, z7, z8, z9⟩ := zone_cells k2
      go_wp2_with fail
      refine (rzcheck_any _ _ _ _ _ _ _ _ _ _ 0 _ hz (i64_of v2) (i64_of v6)).mono ?_; rintro e w3 ⟨rfl, hb⟩
      have k3 := k2.kept hb
      have h3 := h2.trans (hb.mono h2.size)
      have ht3 := ht2.below hb
      clear hb k2 h2 ht2 z0 z1 z2 z3 z4 z5 z6 z7 z8 z9
      obtain ⟨z0, z1, z2, z3, z4, z5, z6, z7, z8, z9⟩ := zone_cells k3
      go_wp2_with fail
      refine (rztime_any _ _).mono ?_; rintro e w' ⟨rfl, rfl⟩
      rw [ht0]
      go_wp2_with fail
      refine (awake6 _ ht3).mono ?_; rintro e w4 ⟨rfl, hb⟩
      have k4 := k3.kept hb
      have h4 := h3.trans (hb.mono h3.size)
      have ht4 := ht3.below hb
      clear hb k3 h3 ht3 z0 z1 z2 z3 z4 z5 z6 z7 z8 z9
      obtain ⟨z0, z1, z2, z3, z4, z5, z6, z7, z8, z9⟩ := zone_cells k4
      have HB := Lib.hid h4
      clear h4
      go_wp2
      go_ret
      exact ⟨rfl, HB.out⟩
    · rw [if_pos hz] at hr
      have h1 : zErr ⟨b, s, m, k, d, t, m', k', d', t'⟩ = r := hr
      have hr : tErr ⟨b, s, m, k, d, t, m', k', d', t'⟩ u = r := by unfold tErr; rw [if_pos hz]; exact h1
      have hne : (r != 0) = true := by simpa using h0
      have hne2 : (r == 0) = false := by simpa using h0
      clear hz
      have hz := h1
      clear h1
      go_enter Tryd.func14, Tryd.ntmps14
      go_wp2_with fail
      refine (zsummer_no _ _ _ _ _ _ _ _ _ _ _ r _ hr h0).mono ?_; rintro e w1 ⟨rfl, hb⟩
      have k1 := kA.kept hb
      have h1 := hA.trans (hb.mono hA.size)
      have ht1 := htA.below hb
      clear hb kA hA htA
      obtain ⟨z0, z1, z2, z3, z4, z5, z6, z7, z8, z9⟩ := zone_cells k1
      go_wp2_with fail
      refine (zlocal_no _ _ _ _ _ _ _ _ _ _ _ r _ hr h0).mono ?_; rintro e w2 ⟨rfl, hb⟩
      have k2 := k1.kept hb
      have h2 := h1.trans (hb.mono h1.size)
      have ht2 := ht1.below hb
      clear hb k1 h1 ht1 z0 z1 z2 z3 z4 z5 z6 z7 z8 z9
      obtain ⟨z0, z1, z2, z3, z4, z5, z6, z7, z8, z9⟩ := zone_cells k2
      go_wp2_with fail
      refine (rzcheck_any _ _ _ _ _ _ _ _ _ _ r _ hz (i64_of v2) (i64_of v6)).mono ?_; rintro e w3 ⟨rfl, hb⟩
      have k3 := k2.kept hb
      have h3 := h2.trans (hb.mono h2.size)
      have ht3 := ht2.below hb
      clear hb k2 h2 ht2 z0 z1 z2 z3 z4 z5 z6 z7 z8 z9
      obtain ⟨z0, z1, z2, z3, z4, z5, z6, z7, z8, z9⟩ := zone_cells k3
      go_wp2_with fail
      refine (awake6 _ ht3).mono ?_; rintro e w4 ⟨rfl, hb⟩
      have k4 := k3.kept hb
      have h4 := h3.trans (hb.mono h3.size)
      have ht4 := ht3.below hb
      clear hb k3 h3 ht3 z0 z1 z2 z3 z4 z5 z6 z7 z8 z9
      obtain ⟨z0, z1, z2, z3, z4, z5, z6, z7, z8, z9⟩ := zone_cells k4
      have HB := Lib.hid h4
      clear h4
      go_wp2
      go_ret
      exact ⟨rfl, HB.out⟩

end Go.Proofs.YtdjfmcomeaijgaaDoor
