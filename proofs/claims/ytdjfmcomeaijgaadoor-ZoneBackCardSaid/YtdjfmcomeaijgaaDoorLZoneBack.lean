/- ZoneBack: an instant is one of those at which clocks tell what they tell then: the walk. -/
import Derived.Test.YtdjfmcomeaijgaaDoorZJ
namespace Go.Proofs.YtdjfmcomeaijgaaDoor
open Go Go.RowKit
set_option linter.unusedVariables false
set_option linter.unusedSimpArgs false

set_option maxRecDepth 100000 in
set_option maxHeartbeats 4000000 in
theorem walk_ZoneBack (b s m k d t m' k' d' t' u : Int) (v0 : (Lit.int .i64 b).wf = true) (v1 : (Lit.int .i64 s).wf = true) (v2 : (Lit.int .i64 m).wf = true) (v3 : (Lit.int .i64 k).wf = true) (v4 : (Lit.int .i64 d).wf = true) (v5 : (Lit.int .i64 t).wf = true) (v6 : (Lit.int .i64 m').wf = true) (v7 : (Lit.int .i64 k').wf = true) (v8 : (Lit.int .i64 d').wf = true) (v9 : (Lit.int .i64 t').wf = true) (vu : (Lit.int .i64 u).wf = true) (w : World) (ht : Tab w) : Calls Tryd.prog 16 #[.agg #[.int .i64 b, .int .i64 s, .int .i64 m, .int .i64 k, .int .i64 d, .int .i64 t, .int .i64 m', .int .i64 k', .int .i64 d', .int .i64 t'], .int .i64 u] w fun e w' => e = .returned (.bool true) ∧ Below w.heap.size w w' := by
  by_cases hr : tErr ⟨b, s, m, k, d, t, m', k', d', t'⟩ u = 0
  · obtain ⟨hz, u1, u2⟩ := tErr_0 hr
    obtain ⟨hb1, hb2⟩ := zErr_b hz
    have sb := zErr_sb hz
    simp only at hb1 hb2 sb
    obtain ⟨q, hq⟩ : ∃ q, shiftV ⟨b, s, m, k, d, t, m', k', d', t'⟩ u = q := ⟨_, rfl⟩
    have qc := shiftV_cases ⟨b, s, m, k, d, t, m', k', d', t'⟩ u
    rw [hq] at qc
    simp only at qc
    obtain ⟨a1, e1⟩ : ∃ x, (u + b + q) / 1440 = x := ⟨_, rfl⟩
    obtain ⟨b1, f1⟩ : ∃ x, (u + b + q) % 1440 = x := ⟨_, rfl⟩
    by_cases hd : DayOk a1 b1
    · obtain ⟨T, hT⟩ : ∃ T, a1 * 1440 + b1 - b = T := ⟨_, rfl⟩
      have eT : T = u + q := by omega
      have d0 := hd
      obtain ⟨d1, d2, d3, d4⟩ := d0
      have rr : ∀ x, 576000 ≤ x → x ≤ 5258879999 → tErr ⟨b, s, m, k, d, t, m', k', d', t'⟩ x = 0 := fun x x1 x2 => by unfold tErr; rw [if_neg (by omega), if_neg (by omega)]
      have c5 := inst_five (z := ⟨b, s, m, k, d, t, m', k', d', t'⟩) T sb.1
      simp only at c5
      rcases qc with q0 | ⟨q0, qn⟩
      · have eu : T = u := by omega
        rcases c5 with ⟨c0, c1, hx⟩ | ⟨c0, c1, c2, hx⟩ | ⟨c0, c1, c2, hx⟩ | ⟨c0, c1, c2, hx⟩ | ⟨c0, c1, c2, hx⟩
        · exact zback_one b s m k d t m' k' d' t' u q a1 b1 T w ht hz hr hq e1 f1 hd hT (by rw [hx, eu])
        · exact zback_late b s m k d t m' k' d' t' u q a1 b1 (T - s) s T w ht hz hr hq e1 f1 hd hT (by rw [hx, eu]) (by omega) (rr _ (by omega) (by omega)) c1 (by omega) (by omega)
        · rw [eu, hq] at c2; omega
        · rw [eu, hq] at c2; omega
        · exact zback_one b s m k d t m' k' d' t' u q a1 b1 T w ht hz hr hq e1 f1 hd hT (by rw [hx, eu])
      · have eu : T - s = u := by omega
        rcases c5 with ⟨c0, c1, hx⟩ | ⟨c0, c1, c2, hx⟩ | ⟨c0, c1, c2, hx⟩ | ⟨c0, c1, c2, hx⟩ | ⟨c0, c1, c2, hx⟩
        · omega
        · exact zback_early b s m k d t m' k' d' t' u q a1 b1 T 0 T w ht hz hr hq e1 f1 hd hT (by rw [hx, eu]) (by omega) (rr _ (by omega) (by omega)) c2 (by omega) (by omega)
        · exact zback_one b s m k d t m' k' d' t' u q a1 b1 T w ht hz hr hq e1 f1 hd hT (by rw [hx, eu])
        · rw [eu, hq] at c1; omega
        · rw [eu, hq] at c1; omega
    · have E1 := Lib.hid e1
      have F1 := Lib.hid f1
      have dd : a1 < 401 ∨ 3651998 < a1 := by unfold DayOk at hd; omega
      clear e1 f1 qc
      have hA := (Below.refl w.heap.size w).alloc (Nat.le_refl _) (.cells #[.int .i64 b, .int .i64 s, .int .i64 m, .int .i64 k, .int .i64 d, .int .i64 t, .int .i64 m', .int .i64 k', .int .i64 d', .int .i64 t'] 49)
      have kA := BlockIs.new w #[.int .i64 b, .int .i64 s, .int .i64 m, .int .i64 k, .int .i64 d, .int .i64 t, .int .i64 m', .int .i64 k', .int .i64 d', .int .i64 t'] 49
      have htA := ht.below hA
      rcases dd with dd | dd
      · skip
        go_enter Tryd.func16, Tryd.ntmps16
        go_wp2_with fail
        refine (zlocal_ok _ _ _ _ _ _ _ _ _ _ u q a1 b1 _ htA hr hq E1.out F1.out).mono ?_; rintro e w1 ⟨rfl, hb⟩
        have k1 := kA.kept hb
        have h1 := hA.trans (hb.mono hA.size)
        have ht1 := htA.below hb
        clear hb kA hA htA
        obtain ⟨z0, z1, z2, z3, z4, z5, z6, z7, z8, z9⟩ := zone_cells k1
        go_wp2_with fail
        refine (zinst_day _ _ _ _ _ _ _ _ _ _ _ _ _ hz hd).mono ?_; rintro e w2 ⟨rfl, hb⟩
        have k2 := k1.kept hb
        have h2 := h1.trans (hb.mono h1.size)
        have ht2 := ht1.below hb
        clear hb k1 h1 ht1 z0 z1 z2 z3 z4 z5 z6 z7 z8 z9
        obtain ⟨z0, z1, z2, z3, z4, z5, z6, z7, z8, z9⟩ := zone_cells k2
        go_wp2_with fail
        refine (awake6 _ ht2).mono ?_; rintro e w3 ⟨rfl, hb⟩
        have k3 := k2.kept hb
        have h3 := h2.trans (hb.mono h2.size)
        have ht3 := ht2.below hb
        clear hb k2 h2 ht2 z0 z1 z2 z3 z4 z5 z6 z7 z8 z9
        obtain ⟨z0, z1, z2, z3, z4, z5, z6, z7, z8, z9⟩ := zone_cells k3
        have HB := Lib.hid h3
        clear h3
        go_wp2
        go_ret
        exact ⟨rfl, HB.out⟩
      · have dd1 : decide (a1 < 401) = false := by simp; omega
        go_enter Tryd.func16, Tryd.ntmps16
        go_wp2_with fail
        refine (zlocal_ok _ _ _ _ _ _ _ _ _ _ u q a1 b1 _ htA hr hq E1.out F1.out).mono ?_; rintro e w1 ⟨rfl, hb⟩
        have k1 := kA.kept hb
        have h1 := hA.trans (hb.mono hA.size)
        have ht1 := htA.below hb
        clear hb kA hA htA
        obtain ⟨z0, z1, z2, z3, z4, z5, z6, z7, z8, z9⟩ := zone_cells k1
        go_wp2_with fail
        refine (zinst_day _ _ _ _ _ _ _ _ _ _ _ _ _ hz hd).mono ?_; rintro e w2 ⟨rfl, hb⟩
        have k2 := k1.kept hb
        have h2 := h1.trans (hb.mono h1.size)
        have ht2 := ht1.below hb
        clear hb k1 h1 ht1 z0 z1 z2 z3 z4 z5 z6 z7 z8 z9
        obtain ⟨z0, z1, z2, z3, z4, z5, z6, z7, z8, z9⟩ := zone_cells k2
        go_wp2_with fail
        refine (awake6 _ ht2).mono ?_; rintro e w3 ⟨rfl, hb⟩
        have k3 := k2.kept hb
        have h3 := h2.trans (hb.mono h2.size)
        have ht3 := ht2.below hb
        clear hb k2 h2 ht2 z0 z1 z2 z3 z4 z5 z6 z7 z8 z9
        obtain ⟨z0, z1, z2, z3, z4, z5, z6, z7, z8, z9⟩ := zone_cells k3
        have HB := Lib.hid h3
        clear h3
        go_wp2
        go_ret
        exact ⟨rfl, HB.out⟩
  · have h0 : tErr ⟨b, s, m, k, d, t, m', k', d', t'⟩ u ≠ 0 := hr
    clear hr
    obtain ⟨r, hr⟩ : ∃ r, tErr ⟨b, s, m, k, d, t, m', k', d', t'⟩ u = r := ⟨_, rfl⟩
    rw [hr] at h0
    have hne : (r != 0) = true := by simpa using h0
    have hA := (Below.refl w.heap.size w).alloc (Nat.le_refl _) (.cells #[.int .i64 b, .int .i64 s, .int .i64 m, .int .i64 k, .int .i64 d, .int .i64 t, .int .i64 m', .int .i64 k', .int .i64 d', .int .i64 t'] 49)
    have kA := BlockIs.new w #[.int .i64 b, .int .i64 s, .int .i64 m, .int .i64 k, .int .i64 d, .int .i64 t, .int .i64 m', .int .i64 k', .int .i64 d', .int .i64 t'] 49
    have htA := ht.below hA
    have hr1 := hr
    unfold tErr at hr1
    by_cases hz : zErr ⟨b, s, m, k, d, t, m', k', d', t'⟩ = 0
    · clear hr1
      go_enter Tryd.func16, Tryd.ntmps16
      go_wp2_with fail
      refine (zlocal_no _ _ _ _ _ _ _ _ _ _ _ r _ hr h0).mono ?_; rintro e w1 ⟨rfl, hb⟩
      have k1 := kA.kept hb
      have h1 := hA.trans (hb.mono hA.size)
      have ht1 := htA.below hb
      clear hb kA hA htA
      obtain ⟨z0, z1, z2, z3, z4, z5, z6, z7, z8, z9⟩ := zone_cells k1
      go_wp2_with fail
      refine (zinst_day _ _ _ _ _ _ _ _ _ _ _ _ _ hz (by decide)).mono ?_; rintro e w2 ⟨rfl, hb⟩
      have k2 := k1.kept hb
      have h2 := h1.trans (hb.mono h1.size)
      have ht2 := ht1.below hb
      clear hb k1 h1 ht1 z0 z1 z2 z3 z4 z5 z6 z7 z8 z9
      obtain ⟨z0, z1, z2, z3, z4, z5, z6, z7, z8, z9⟩ := zone_cells k2
      go_wp2_with fail
      refine (awake6 _ ht2).mono ?_; rintro e w3 ⟨rfl, hb⟩
      have k3 := k2.kept hb
      have h3 := h2.trans (hb.mono h2.size)
      have ht3 := ht2.below hb
      clear hb k2 h2 ht2 z0 z1 z2 z3 z4 z5 z6 z7 z8 z9
      obtain ⟨z0, z1, z2, z3, z4, z5, z6, z7, z8, z9⟩ := zone_cells k3
      have HB := Lib.hid h3
      clear h3
      go_wp2
      go_ret
      exact ⟨rfl, HB.out⟩
    · rw [if_pos hz] at hr1
      have hz := hr1
      clear hr1
      go_enter Tryd.func16, Tryd.ntmps16
      go_wp2_with fail
      refine (zlocal_no _ _ _ _ _ _ _ _ _ _ _ r _ hr h0).mono ?_; rintro e w1 ⟨rfl, hb⟩
      have k1 := kA.kept hb
      have h1 := hA.trans (hb.mono hA.size)
      have ht1 := htA.below hb
      clear hb kA hA htA
      obtain ⟨z0, z1, z2, z3, z4, z5, z6, z7, z8, z9⟩ := zone_cells k1
      go_wp2_with fail
      refine (zinst_zone _ _ _ _ _ _ _ _ _ _ _ _ r _ hz h0).mono ?_; rintro e w2 ⟨rfl, hb⟩
      have k2 := k1.kept hb
      have h2 := h1.trans (hb.mono h1.size)
      have ht2 := ht1.below hb
      clear hb k1 h1 ht1 z0 z1 z2 z3 z4 z5 z6 z7 z8 z9
      obtain ⟨z0, z1, z2, z3, z4, z5, z6, z7, z8, z9⟩ := zone_cells k2
      go_wp2_with fail
      refine (awake6 _ ht2).mono ?_; rintro e w3 ⟨rfl, hb⟩
      have k3 := k2.kept hb
      have h3 := h2.trans (hb.mono h2.size)
      have ht3 := ht2.below hb
      clear hb k2 h2 ht2 z0 z1 z2 z3 z4 z5 z6 z7 z8 z9
      obtain ⟨z0, z1, z2, z3, z4, z5, z6, z7, z8, z9⟩ := zone_cells k3
      have HB := Lib.hid h3
      clear h3
      go_wp2
      go_ret
      exact ⟨rfl, HB.out⟩

end Go.Proofs.YtdjfmcomeaijgaaDoor
