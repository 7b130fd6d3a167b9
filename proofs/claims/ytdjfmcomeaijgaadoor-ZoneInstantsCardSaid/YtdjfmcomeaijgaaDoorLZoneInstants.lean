/- ZoneInstants: the instants at which clocks tell any minute are the document's: the walk. -/
import Derived.Test.YtdjfmcomeaijgaaDoorZH
namespace Go.Proofs.YtdjfmcomeaijgaaDoor
open Go Go.RowKit
set_option linter.unusedVariables false
set_option linter.unusedSimpArgs false

set_option maxHeartbeats 2000000 in
theorem walk_ZoneInstants (b s m k d t m' k' d' t' n u : Int) (v0 : (Lit.int .i64 b).wf = true) (v1 : (Lit.int .i64 s).wf = true) (v2 : (Lit.int .i64 m).wf = true) (v3 : (Lit.int .i64 k).wf = true) (v4 : (Lit.int .i64 d).wf = true) (v5 : (Lit.int .i64 t).wf = true) (v6 : (Lit.int .i64 m').wf = true) (v7 : (Lit.int .i64 k').wf = true) (v8 : (Lit.int .i64 d').wf = true) (v9 : (Lit.int .i64 t').wf = true) (vn : (Lit.int .i64 n).wf = true) (vu : (Lit.int .i64 u).wf = true) (w : World) (ht : Tab w) : Calls Tryd.prog 15 #[.agg #[.int .i64 b, .int .i64 s, .int .i64 m, .int .i64 k, .int .i64 d, .int .i64 t, .int .i64 m', .int .i64 k', .int .i64 d', .int .i64 t'], .int .i64 n, .int .i64 u] w fun e w' => e = .returned (.bool true) ∧ Below w.heap.size w w' := by
  have hA := (Below.refl w.heap.size w).alloc (Nat.le_refl _) (.cells #[.int .i64 b, .int .i64 s, .int .i64 m, .int .i64 k, .int .i64 d, .int .i64 t, .int .i64 m', .int .i64 k', .int .i64 d', .int .i64 t'] 49)
  have kA := BlockIs.new w #[.int .i64 b, .int .i64 s, .int .i64 m, .int .i64 k, .int .i64 d, .int .i64 t, .int .i64 m', .int .i64 k', .int .i64 d', .int .i64 t'] 49
  have htA := ht.below hA
  by_cases hz : zErr ⟨b, s, m, k, d, t, m', k', d', t'⟩ = 0
  · by_cases hd : DayOk n u
    · have hl : (instV ⟨b, s, m, k, d, t, m', k', d', t'⟩ (n * 1440 + u - b)).length < 1000000 := by
        rcases inst_five (z := ⟨b, s, m, k, d, t, m', k', d', t'⟩) (n * 1440 + u - b) (zErr_sb hz).1 with c | c | c | c | c
        · rw [c.2.2]; simp
        all_goals rw [c.2.2.2]; simp
      obtain ⟨xs, hx⟩ : ∃ xs, instV ⟨b, s, m, k, d, t, m', k', d', t'⟩ (n * 1440 + u - b) = xs := ⟨_, rfl⟩
      rw [hx] at hl
      have hx := Lib.hid hx
      go_enter Tryd.func15, Tryd.ntmps15
      go_wp2_with fail
      refine (zinst_ok _ _ _ _ _ _ _ _ _ _ n u _ xs _ htA hz hd rfl hx.out).mono ?_; rintro e w1 ⟨out, rfl, ro, hb⟩
      have k1 := kA.kept hb
      have h1 := hA.trans (hb.mono hA.size)
      have ht1 := htA.below hb
      clear hb kA hA htA
      obtain ⟨z0, z1, z2, z3, z4, z5, z6, z7, z8, z9⟩ := zone_cells k1
      go_wp2_with fail
      refine (rzcheck_any _ _ _ _ _ _ _ _ _ _ 0 _ hz (i64_of v2) (i64_of v6)).mono ?_; rintro e w2 ⟨rfl, hb⟩
      have k2 := k1.kept hb
      have h2 := h1.trans (hb.mono h1.size)
      have ht2 := ht1.below hb
      have ro := ro.below hb
      clear hb k1 h1 ht1 z0 z1 z2 z3 z4 z5 z6 z7 z8 z9
      obtain ⟨z0, z1, z2, z3, z4, z5, z6, z7, z8, z9⟩ := zone_cells k2
      go_wp2_with fail
      refine (rzday_any _ _ _).mono ?_; rintro e w' ⟨rfl, rfl⟩
      rw [decide_eq_true hd]
      go_wp2_with fail
      refine (awake6 _ ht2).mono ?_; rintro e w3 ⟨rfl, hb⟩
      have k3 := k2.kept hb
      have h3 := h2.trans (hb.mono h2.size)
      have ht3 := ht2.below hb
      have ro := ro.below hb
      clear hb k2 h2 ht2 z0 z1 z2 z3 z4 z5 z6 z7 z8 z9
      obtain ⟨z0, z1, z2, z3, z4, z5, z6, z7, z8, z9⟩ := zone_cells k3
      go_wp2_with fail
      refine (rzinst_ok _ _ _ _ _ _ _ _ _ _ n u _ xs _ hz hd rfl hx.out).mono ?_; rintro e w4 ⟨out2, rfl, ro2, hb⟩
      have k4 := k3.kept hb
      have h4 := h3.trans (hb.mono h3.size)
      have ht4 := ht3.below hb
      have ro := ro.below hb
      clear hb k3 h3 ht3 z0 z1 z2 z3 z4 z5 z6 z7 z8 z9
      obtain ⟨z0, z1, z2, z3, z4, z5, z6, z7, z8, z9⟩ := zone_cells k4
      go_wp2_with fail
      refine (rzsame_any _ _ xs _ hl ro ro2).mono ?_; rintro e w5 ⟨rfl, hb⟩
      have k5 := k4.kept hb
      have h5 := h4.trans (hb.mono h4.size)
      have ht5 := ht4.below hb
      have ro := ro.below hb
      clear hb k4 h4 ht4 z0 z1 z2 z3 z4 z5 z6 z7 z8 z9
      obtain ⟨z0, z1, z2, z3, z4, z5, z6, z7, z8, z9⟩ := zone_cells k5
      have HB := Lib.hid h5
      clear h5
      go_wp2
      go_ret
      exact ⟨rfl, HB.out⟩
    · skip
      go_enter Tryd.func15, Tryd.ntmps15
      go_wp2_with fail
      refine (zinst_day _ _ _ _ _ _ _ _ _ _ _ _ _ hz hd).mono ?_; rintro e w1 ⟨rfl, hb⟩
      have k1 := kA.kept hb
      have h1 := hA.trans (hb.mono hA.size)
      have ht1 := htA.below hb
      clear hb kA hA htA
      obtain ⟨z0, z1, z2, z3, z4, z5, z6, z7, z8, z9⟩ := zone_cells k1
      go_wp2_with fail
      refine (rzcheck_any _ _ _ _ _ _ _ _ _ _ 0 _ hz (i64_of v2) (i64_of v6)).mono ?_; rintro e w2 ⟨rfl, hb⟩
      have k2 := k1.kept hb
      have h2 := h1.trans (hb.mono h1.size)
      have ht2 := ht1.below hb
      clear hb k1 h1 ht1 z0 z1 z2 z3 z4 z5 z6 z7 z8 z9
      obtain ⟨z0, z1, z2, z3, z4, z5, z6, z7, z8, z9⟩ := zone_cells k2
      go_wp2_with fail
      refine (rzday_any _ _ _).mono ?_; rintro e w' ⟨rfl, rfl⟩
      rw [decide_eq_false hd]
      go_wp2_with fail
      refine (awake6 _ ht2).mono ?_; rintro e w3 ⟨rfl, hb⟩
      have k3 := k2.kept hb
      have h3 := h2.trans (hb.mono h2.size)
      have ht3 := ht2.below hb
      clear hb k2 h2 ht2 z0 z1 z2 z3 z4 z5 z6 z7 z8 z9
      obtain ⟨z0, z1, z2, z3, z4, z5, z6, z7, z8, z9⟩ := zone_cells k3
      have HB := Lib.hid h3
      clear h3
      go_wp2
      go_ret
      exact ⟨rfl, HB.out⟩
  · have h0 : zErr ⟨b, s, m, k, d, t, m', k', d', t'⟩ ≠ 0 := hz
    clear hz
    obtain ⟨r, hz⟩ : ∃ r, zErr ⟨b, s, m, k, d, t, m', k', d', t'⟩ = r := ⟨_, rfl⟩
    rw [hz] at h0
    have hne : (r != 0) = true := by simpa using h0
    have hne2 : (r == 0) = false := by simpa using h0
    go_enter Tryd.func15, Tryd.ntmps15
    go_wp2_with fail
    refine (zinst_zone _ _ _ _ _ _ _ _ _ _ _ _ r _ hz h0).mono ?_; rintro e w1 ⟨rfl, hb⟩
    have k1 := kA.kept hb
    have h1 := hA.trans (hb.mono hA.size)
    have ht1 := htA.below hb
    clear hb kA hA htA
    obtain ⟨z0, z1, z2, z3, z4, z5, z6, z7, z8, z9⟩ := zone_cells k1
    go_wp2_with fail
    refine (rzcheck_any _ _ _ _ _ _ _ _ _ _ r _ hz (i64_of v2) (i64_of v6)).mono ?_; rintro e w2 ⟨rfl, hb⟩
    have k2 := k1.kept hb
    have h2 := h1.trans (hb.mono h1.size)
    have ht2 := ht1.below hb
    clear hb k1 h1 ht1 z0 z1 z2 z3 z4 z5 z6 z7 z8 z9
    obtain ⟨z0, z1, z2, z3, z4, z5, z6, z7, z8, z9⟩ := zone_cells k2
    go_wp2_with fail
    refine (awake6 _ ht2).mono ?_; rintro e w3 ⟨rfl, hb⟩
    have k3 := k2.kept hb
    have h3 := h2.trans (hb.mono h2.size)
    have ht3 := ht2.below hb
    clear hb k2 h2 ht2 z0 z1 z2 z3 z4 z5 z6 z7 z8 z9
    obtain ⟨z0, z1, z2, z3, z4, z5, z6, z7, z8, z9⟩ := zone_cells k3
    have HB := Lib.hid h3
    clear h3
    go_wp2
    go_ret
    exact ⟨rfl, HB.out⟩

end Go.Proofs.YtdjfmcomeaijgaaDoor
