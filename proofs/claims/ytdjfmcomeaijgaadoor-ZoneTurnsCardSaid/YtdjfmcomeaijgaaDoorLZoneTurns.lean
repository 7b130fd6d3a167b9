/- ZoneTurns: at a turn clocks are set, and not a minute ahead: the walk. -/
import Derived.Test.YtdjfmcomeaijgaaDoorZH
import Derived.Test.YtdjfmcomeaijgaaDoorZP
namespace Go.Proofs.YtdjfmcomeaijgaaDoor
open Go Go.RowKit
set_option linter.unusedVariables false
set_option linter.unusedSimpArgs false

set_option maxRecDepth 100000 in
set_option maxHeartbeats 8000000 in
theorem walk_ZoneTurns (b s m k d t m' k' d' t' y : Int) (v0 : (Lit.int .i64 b).wf = true) (v1 : (Lit.int .i64 s).wf = true) (v2 : (Lit.int .i64 m).wf = true) (v3 : (Lit.int .i64 k).wf = true) (v4 : (Lit.int .i64 d).wf = true) (v5 : (Lit.int .i64 t).wf = true) (v6 : (Lit.int .i64 m').wf = true) (v7 : (Lit.int .i64 k').wf = true) (v8 : (Lit.int .i64 d').wf = true) (v9 : (Lit.int .i64 t').wf = true) (vy : (Lit.int .i64 y).wf = true) (w : World) (ht : Tab w) : Calls Tryd.prog 19 #[.agg #[.int .i64 b, .int .i64 s, .int .i64 m, .int .i64 k, .int .i64 d, .int .i64 t, .int .i64 m', .int .i64 k', .int .i64 d', .int .i64 t'], .int .i64 y] w fun e w' => e = .returned (.bool true) ∧ Below w.heap.size w w' := by
  have hA := (Below.refl w.heap.size w).alloc (Nat.le_refl _) (.cells #[.int .i64 b, .int .i64 s, .int .i64 m, .int .i64 k, .int .i64 d, .int .i64 t, .int .i64 m', .int .i64 k', .int .i64 d', .int .i64 t'] 49)
  have kA := BlockIs.new w #[.int .i64 b, .int .i64 s, .int .i64 m, .int .i64 k, .int .i64 d, .int .i64 t, .int .i64 m', .int .i64 k', .int .i64 d', .int .i64 t'] 49
  have htA := ht.below hA
  by_cases hz : zErr ⟨b, s, m, k, d, t, m', k', d', t'⟩ = 0
  · by_cases cs : s = 0
    · have hs0 : (s == 0) = true := beq_iff_eq.2 cs
      clear cs
      go_enter Tryd.func19, Tryd.ntmps19
      go_wp2_with fail
      refine (zcheck_any _ _ _ _ _ _ _ _ _ _ 0 _ hz).mono ?_; rintro e w1 ⟨rfl, hb⟩
      have k1 := kA.kept hb
      have h1 := hA.trans (hb.mono hA.size)
      have ht1 := htA.below hb
      clear hb kA hA htA
      obtain ⟨z0, z1, z2, z3, z4, z5, z6, z7, z8, z9⟩ := zone_cells k1
      go_wp2_with fail
      refine (awake6 _ ht1).mono ?_; rintro e w2 ⟨rfl, hb⟩
      have k2 := k1.kept hb
      have h2 := h1.trans (hb.mono h1.size)
      have ht2 := ht1.below hb
      clear hb k1 h1 ht1 z0 z1 z2 z3 z4 z5 z6 z7 z8 z9
      obtain ⟨z0, z1, z2, z3, z4, z5, z6, z7, z8, z9⟩ := zone_cells k2
      have HB := Lib.hid h2
      clear h2
      go_wp2
      go_ret
      exact ⟨rfl, HB.out⟩
    · have hs0 : (s == 0) = false := beq_eq_false_iff_ne.2 cs
      by_cases c3 : y < 3
      · skip
        go_enter Tryd.func19, Tryd.ntmps19
        go_wp2_with fail
        refine (zcheck_any _ _ _ _ _ _ _ _ _ _ 0 _ hz).mono ?_; rintro e w1 ⟨rfl, hb⟩
        have k1 := kA.kept hb
        have h1 := hA.trans (hb.mono hA.size)
        have ht1 := htA.below hb
        clear hb kA hA htA
        obtain ⟨z0, z1, z2, z3, z4, z5, z6, z7, z8, z9⟩ := zone_cells k1
        go_wp2_with fail
        refine (awake6 _ ht1).mono ?_; rintro e w2 ⟨rfl, hb⟩
        have k2 := k1.kept hb
        have h2 := h1.trans (hb.mono h1.size)
        have ht2 := ht1.below hb
        clear hb k1 h1 ht1 z0 z1 z2 z3 z4 z5 z6 z7 z8 z9
        obtain ⟨z0, z1, z2, z3, z4, z5, z6, z7, z8, z9⟩ := zone_cells k2
        have HB := Lib.hid h2
        clear h2
        go_wp2
        go_ret
        exact ⟨rfl, HB.out⟩
      · have c3 : 3 ≤ y := by omega
        by_cases c9 : 9990 < y
        · skip
          go_enter Tryd.func19, Tryd.ntmps19
          go_wp2_with fail
          refine (zcheck_any _ _ _ _ _ _ _ _ _ _ 0 _ hz).mono ?_; rintro e w1 ⟨rfl, hb⟩
          have k1 := kA.kept hb
          have h1 := hA.trans (hb.mono hA.size)
          have ht1 := htA.below hb
          clear hb kA hA htA
          obtain ⟨z0, z1, z2, z3, z4, z5, z6, z7, z8, z9⟩ := zone_cells k1
          go_wp2_with fail
          refine (awake6 _ ht1).mono ?_; rintro e w2 ⟨rfl, hb⟩
          have k2 := k1.kept hb
          have h2 := h1.trans (hb.mono h1.size)
          have ht2 := ht1.below hb
          clear hb k1 h1 ht1 z0 z1 z2 z3 z4 z5 z6 z7 z8 z9
          obtain ⟨z0, z1, z2, z3, z4, z5, z6, z7, z8, z9⟩ := zone_cells k2
          have HB := Lib.hid h2
          clear h2
          go_wp2
          go_ret
          exact ⟨rfl, HB.out⟩
        · have c9 : y ≤ 9990 := by omega
          obtain ⟨o1, o2⟩ := zErr_turns hz cs
          obtain ⟨hb1, hb2⟩ := zErr_b hz
          have sb := zErr_sb hz
          have tp := turns_plain hz cs c3 c9
          simp only at o1 o2 hb1 hb2 sb tp
          obtain ⟨q1, q2, q3, q4⟩ := tp
          have m1 := tOk_iff.1 o1
          have m2 := tOk_iff.1 o2
          have e1 := (day_in (y := y) (by omega) (by omega) o1).2.2.2.2
          have e2 := (day_in (y := y) (by omega) (by omega) o2).2.2.2.2
          have bA := turn_bd c3 c9 hb1 hb2 o1
          have bB := turn_bd c3 c9 hb1 hb2 o2
          have wA := when_eq b m k d t y
          have wB := when_eq b m' k' d' t' y
          obtain ⟨N, hN⟩ : ∃ N, (nthV y m d (wk k)).1 = N := ⟨_, rfl⟩
          obtain ⟨O, hO⟩ : ∃ O, (nthV y m' d' (wk k')).1 = O := ⟨_, rfl⟩
          rw [hN] at wA
          rw [hO] at wB
          obtain ⟨A, hA'⟩ : ∃ A, whenV b m k d t y = A := ⟨_, rfl⟩
          obtain ⟨B, hB'⟩ : ∃ B, whenV b m' k' d' t' y = B := ⟨_, rfl⟩
          rw [hA'] at q1 q2 bA wA
          rw [hB'] at q3 q4 bB wB
          have wA2 := wA.symm
          have wB2 := wB.symm
          clear wA wB
          have rr : ∀ u, 576000 ≤ u → u ≤ 5258879999 → tErr ⟨b, s, m, k, d, t, m', k', d', t'⟩ u = 0 := fun u x1 x2 => by unfold tErr; rw [if_neg (by omega), if_neg (by omega)]
          have rA := rr A (by omega) (by omega)
          have rA1 := rr (A - 1) (by omega) (by omega)
          have rB := rr B (by omega) (by omega)
          have rB1 := rr (B - 1) (by omega) (by omega)
          have hsp : decide (0 < s) = true := by simp; omega
          obtain ⟨t1a, t1b, t1c, t1d, t1e, t1f, t1g, t1h⟩ := m1
          obtain ⟨t2a, t2b, t2c, t2d, t2e, t2f, t2g, t2h⟩ := m2
          obtain ⟨bA1, bA2⟩ := bA
          obtain ⟨bB1, bB2⟩ := bB
          have nN1 : 0 ≤ N := by omega
          have nN2 : N ≤ 4000000 := by omega
          have nO1 : 0 ≤ O := by omega
          have nO2 : O ≤ 4000000 := by omega
          clear hA' hB' rr o1 o2
          by_cases ck : k = 5 <;> by_cases cm : k' = 5
          · skip
            have hk5 : (k == 5) = true := beq_iff_eq.2 ck
            have hm5 : (k' == 5) = true := beq_iff_eq.2 cm
            have wk1 : wk k = -1 := by unfold wk; rw [if_pos ck]
            have wk2 : wk k' = -1 := by unfold wk; rw [if_pos cm]
            rw [wk1] at hN e1
            rw [wk2] at hO e2
            have HN := Lib.hid hN
            have HO := Lib.hid hO
            have E1 := Lib.hid e1
            have E2 := Lib.hid e2
            clear wk1 wk2 hN hO e1 e2 ck cm
            go_enter Tryd.func19, Tryd.ntmps19
            go_wp2_with fail
            refine (zcheck_any _ _ _ _ _ _ _ _ _ _ 0 _ hz).mono ?_; rintro e w1 ⟨rfl, hb⟩
            have k1 := kA.kept hb
            have h1 := hA.trans (hb.mono hA.size)
            have ht1 := htA.below hb
            clear hb kA hA htA
            obtain ⟨z0, z1, z2, z3, z4, z5, z6, z7, z8, z9⟩ := zone_cells k1
            go_wp2_with fail
            refine (gnth_any _ _ _ _ _ ht1).mono ?_; rintro e w2 ⟨rfl, hb⟩
            have k2 := k1.kept hb
            have h2 := h1.trans (hb.mono h1.size)
            have ht2 := ht1.below hb
            clear hb k1 h1 ht1 z0 z1 z2 z3 z4 z5 z6 z7 z8 z9
            obtain ⟨z0, z1, z2, z3, z4, z5, z6, z7, z8, z9⟩ := zone_cells k2
            rw [HN.out, E1.out]
            go_wp2_with fail
            refine (gnth_any _ _ _ _ _ ht2).mono ?_; rintro e w3 ⟨rfl, hb⟩
            have k3 := k2.kept hb
            have h3 := h2.trans (hb.mono h2.size)
            have ht3 := ht2.below hb
            clear hb k2 h2 ht2 z0 z1 z2 z3 z4 z5 z6 z7 z8 z9
            obtain ⟨z0, z1, z2, z3, z4, z5, z6, z7, z8, z9⟩ := zone_cells k3
            rw [HO.out, E2.out]
            go_wp2_with fail
            refine (zsummer_ok _ _ _ _ _ _ _ _ _ _ A s _ ht3 rA hb1 hb2 q1).mono ?_; rintro e w4 ⟨rfl, hb⟩
            have k4 := k3.kept hb
            have h4 := h3.trans (hb.mono h3.size)
            have ht4 := ht3.below hb
            clear hb k3 h3 ht3 z0 z1 z2 z3 z4 z5 z6 z7 z8 z9
            obtain ⟨z0, z1, z2, z3, z4, z5, z6, z7, z8, z9⟩ := zone_cells k4
            go_wp2_with fail
            refine (zsummer_ok _ _ _ _ _ _ _ _ _ _ (A - 1) 0 _ ht4 rA1 hb1 hb2 q2).mono ?_; rintro e w5 ⟨rfl, hb⟩
            have k5 := k4.kept hb
            have h5 := h4.trans (hb.mono h4.size)
            have ht5 := ht4.below hb
            clear hb k4 h4 ht4 z0 z1 z2 z3 z4 z5 z6 z7 z8 z9
            obtain ⟨z0, z1, z2, z3, z4, z5, z6, z7, z8, z9⟩ := zone_cells k5
            go_wp2_with fail
            refine (zsummer_ok _ _ _ _ _ _ _ _ _ _ B 0 _ ht5 rB hb1 hb2 q3).mono ?_; rintro e w6 ⟨rfl, hb⟩
            have k6 := k5.kept hb
            have h6 := h5.trans (hb.mono h5.size)
            have ht6 := ht5.below hb
            clear hb k5 h5 ht5 z0 z1 z2 z3 z4 z5 z6 z7 z8 z9
            obtain ⟨z0, z1, z2, z3, z4, z5, z6, z7, z8, z9⟩ := zone_cells k6
            go_wp2_with fail
            refine (zsummer_ok _ _ _ _ _ _ _ _ _ _ (B - 1) s _ ht6 rB1 hb1 hb2 q4).mono ?_; rintro e w7 ⟨rfl, hb⟩
            have k7 := k6.kept hb
            have h7 := h6.trans (hb.mono h6.size)
            have ht7 := ht6.below hb
            clear hb k6 h6 ht6 z0 z1 z2 z3 z4 z5 z6 z7 z8 z9
            obtain ⟨z0, z1, z2, z3, z4, z5, z6, z7, z8, z9⟩ := zone_cells k7
            go_wp2_with fail
            refine (awake6 _ ht7).mono ?_; rintro e w8 ⟨rfl, hb⟩
            have k8 := k7.kept hb
            have h8 := h7.trans (hb.mono h7.size)
            have ht8 := ht7.below hb
            clear hb k7 h7 ht7 z0 z1 z2 z3 z4 z5 z6 z7 z8 z9
            obtain ⟨z0, z1, z2, z3, z4, z5, z6, z7, z8, z9⟩ := zone_cells k8
            have HB := Lib.hid h8
            clear h8
            go_wp2
            go_ret
            exact ⟨rfl, HB.out⟩
          · skip
            have hk5 : (k == 5) = true := beq_iff_eq.2 ck
            have hm5 : (k' == 5) = false := beq_eq_false_iff_ne.2 cm
            have wk1 : wk k = -1 := by unfold wk; rw [if_pos ck]
            have wk2 : wk k' = k' := by unfold wk; rw [if_neg cm]
            rw [wk1] at hN e1
            rw [wk2] at hO e2
            have HN := Lib.hid hN
            have HO := Lib.hid hO
            have E1 := Lib.hid e1
            have E2 := Lib.hid e2
            clear wk1 wk2 hN hO e1 e2 ck cm
            go_enter Tryd.func19, Tryd.ntmps19
            go_wp2_with fail
            refine (zcheck_any _ _ _ _ _ _ _ _ _ _ 0 _ hz).mono ?_; rintro e w1 ⟨rfl, hb⟩
            have k1 := kA.kept hb
            have h1 := hA.trans (hb.mono hA.size)
            have ht1 := htA.below hb
            clear hb kA hA htA
            obtain ⟨z0, z1, z2, z3, z4, z5, z6, z7, z8, z9⟩ := zone_cells k1
            go_wp2_with fail
            refine (gnth_any _ _ _ _ _ ht1).mono ?_; rintro e w2 ⟨rfl, hb⟩
            have k2 := k1.kept hb
            have h2 := h1.trans (hb.mono h1.size)
            have ht2 := ht1.below hb
            clear hb k1 h1 ht1 z0 z1 z2 z3 z4 z5 z6 z7 z8 z9
            obtain ⟨z0, z1, z2, z3, z4, z5, z6, z7, z8, z9⟩ := zone_cells k2
            rw [HN.out, E1.out]
            go_wp2_with fail
            refine (gnth_any _ _ _ _ _ ht2).mono ?_; rintro e w3 ⟨rfl, hb⟩
            have k3 := k2.kept hb
            have h3 := h2.trans (hb.mono h2.size)
            have ht3 := ht2.below hb
            clear hb k2 h2 ht2 z0 z1 z2 z3 z4 z5 z6 z7 z8 z9
            obtain ⟨z0, z1, z2, z3, z4, z5, z6, z7, z8, z9⟩ := zone_cells k3
            rw [HO.out, E2.out]
            go_wp2_with fail
            refine (zsummer_ok _ _ _ _ _ _ _ _ _ _ A s _ ht3 rA hb1 hb2 q1).mono ?_; rintro e w4 ⟨rfl, hb⟩
            have k4 := k3.kept hb
            have h4 := h3.trans (hb.mono h3.size)
            have ht4 := ht3.below hb
            clear hb k3 h3 ht3 z0 z1 z2 z3 z4 z5 z6 z7 z8 z9
            obtain ⟨z0, z1, z2, z3, z4, z5, z6, z7, z8, z9⟩ := zone_cells k4
            go_wp2_with fail
            refine (zsummer_ok _ _ _ _ _ _ _ _ _ _ (A - 1) 0 _ ht4 rA1 hb1 hb2 q2).mono ?_; rintro e w5 ⟨rfl, hb⟩
            have k5 := k4.kept hb
            have h5 := h4.trans (hb.mono h4.size)
            have ht5 := ht4.below hb
            clear hb k4 h4 ht4 z0 z1 z2 z3 z4 z5 z6 z7 z8 z9
            obtain ⟨z0, z1, z2, z3, z4, z5, z6, z7, z8, z9⟩ := zone_cells k5
            go_wp2_with fail
            refine (zsummer_ok _ _ _ _ _ _ _ _ _ _ B 0 _ ht5 rB hb1 hb2 q3).mono ?_; rintro e w6 ⟨rfl, hb⟩
            have k6 := k5.kept hb
            have h6 := h5.trans (hb.mono h5.size)
            have ht6 := ht5.below hb
            clear hb k5 h5 ht5 z0 z1 z2 z3 z4 z5 z6 z7 z8 z9
            obtain ⟨z0, z1, z2, z3, z4, z5, z6, z7, z8, z9⟩ := zone_cells k6
            go_wp2_with fail
            refine (zsummer_ok _ _ _ _ _ _ _ _ _ _ (B - 1) s _ ht6 rB1 hb1 hb2 q4).mono ?_; rintro e w7 ⟨rfl, hb⟩
            have k7 := k6.kept hb
            have h7 := h6.trans (hb.mono h6.size)
            have ht7 := ht6.below hb
            clear hb k6 h6 ht6 z0 z1 z2 z3 z4 z5 z6 z7 z8 z9
            obtain ⟨z0, z1, z2, z3, z4, z5, z6, z7, z8, z9⟩ := zone_cells k7
            go_wp2_with fail
            refine (awake6 _ ht7).mono ?_; rintro e w8 ⟨rfl, hb⟩
            have k8 := k7.kept hb
            have h8 := h7.trans (hb.mono h7.size)
            have ht8 := ht7.below hb
            clear hb k7 h7 ht7 z0 z1 z2 z3 z4 z5 z6 z7 z8 z9
            obtain ⟨z0, z1, z2, z3, z4, z5, z6, z7, z8, z9⟩ := zone_cells k8
            have HB := Lib.hid h8
            clear h8
            go_wp2
            go_ret
            exact ⟨rfl, HB.out⟩
          · skip
            have hk5 : (k == 5) = false := beq_eq_false_iff_ne.2 ck
            have hm5 : (k' == 5) = true := beq_iff_eq.2 cm
            have wk1 : wk k = k := by unfold wk; rw [if_neg ck]
            have wk2 : wk k' = -1 := by unfold wk; rw [if_pos cm]
            rw [wk1] at hN e1
            rw [wk2] at hO e2
            have HN := Lib.hid hN
            have HO := Lib.hid hO
            have E1 := Lib.hid e1
            have E2 := Lib.hid e2
            clear wk1 wk2 hN hO e1 e2 ck cm
            go_enter Tryd.func19, Tryd.ntmps19
            go_wp2_with fail
            refine (zcheck_any _ _ _ _ _ _ _ _ _ _ 0 _ hz).mono ?_; rintro e w1 ⟨rfl, hb⟩
            have k1 := kA.kept hb
            have h1 := hA.trans (hb.mono hA.size)
            have ht1 := htA.below hb
            clear hb kA hA htA
            obtain ⟨z0, z1, z2, z3, z4, z5, z6, z7, z8, z9⟩ := zone_cells k1
            go_wp2_with fail
            refine (gnth_any _ _ _ _ _ ht1).mono ?_; rintro e w2 ⟨rfl, hb⟩
            have k2 := k1.kept hb
            have h2 := h1.trans (hb.mono h1.size)
            have ht2 := ht1.below hb
            clear hb k1 h1 ht1 z0 z1 z2 z3 z4 z5 z6 z7 z8 z9
            obtain ⟨z0, z1, z2, z3, z4, z5, z6, z7, z8, z9⟩ := zone_cells k2
            rw [HN.out, E1.out]
            go_wp2_with fail
            refine (gnth_any _ _ _ _ _ ht2).mono ?_; rintro e w3 ⟨rfl, hb⟩
            have k3 := k2.kept hb
            have h3 := h2.trans (hb.mono h2.size)
            have ht3 := ht2.below hb
            clear hb k2 h2 ht2 z0 z1 z2 z3 z4 z5 z6 z7 z8 z9
            obtain ⟨z0, z1, z2, z3, z4, z5, z6, z7, z8, z9⟩ := zone_cells k3
            rw [HO.out, E2.out]
            go_wp2_with fail
            refine (zsummer_ok _ _ _ _ _ _ _ _ _ _ A s _ ht3 rA hb1 hb2 q1).mono ?_; rintro e w4 ⟨rfl, hb⟩
            have k4 := k3.kept hb
            have h4 := h3.trans (hb.mono h3.size)
            have ht4 := ht3.below hb
            clear hb k3 h3 ht3 z0 z1 z2 z3 z4 z5 z6 z7 z8 z9
            obtain ⟨z0, z1, z2, z3, z4, z5, z6, z7, z8, z9⟩ := zone_cells k4
            go_wp2_with fail
            refine (zsummer_ok _ _ _ _ _ _ _ _ _ _ (A - 1) 0 _ ht4 rA1 hb1 hb2 q2).mono ?_; rintro e w5 ⟨rfl, hb⟩
            have k5 := k4.kept hb
            have h5 := h4.trans (hb.mono h4.size)
            have ht5 := ht4.below hb
            clear hb k4 h4 ht4 z0 z1 z2 z3 z4 z5 z6 z7 z8 z9
            obtain ⟨z0, z1, z2, z3, z4, z5, z6, z7, z8, z9⟩ := zone_cells k5
            go_wp2_with fail
            refine (zsummer_ok _ _ _ _ _ _ _ _ _ _ B 0 _ ht5 rB hb1 hb2 q3).mono ?_; rintro e w6 ⟨rfl, hb⟩
            have k6 := k5.kept hb
            have h6 := h5.trans (hb.mono h5.size)
            have ht6 := ht5.below hb
            clear hb k5 h5 ht5 z0 z1 z2 z3 z4 z5 z6 z7 z8 z9
            obtain ⟨z0, z1, z2, z3, z4, z5, z6, z7, z8, z9⟩ := zone_cells k6
            go_wp2_with fail
            refine (zsummer_ok _ _ _ _ _ _ _ _ _ _ (B - 1) s _ ht6 rB1 hb1 hb2 q4).mono ?_; rintro e w7 ⟨rfl, hb⟩
            have k7 := k6.kept hb
            have h7 := h6.trans (hb.mono h6.size)
            have ht7 := ht6.below hb
            clear hb k6 h6 ht6 z0 z1 z2 z3 z4 z5 z6 z7 z8 z9
            obtain ⟨z0, z1, z2, z3, z4, z5, z6, z7, z8, z9⟩ := zone_cells k7
            go_wp2_with fail
            refine (awake6 _ ht7).mono ?_; rintro e w8 ⟨rfl, hb⟩
            have k8 := k7.kept hb
            have h8 := h7.trans (hb.mono h7.size)
            have ht8 := ht7.below hb
            clear hb k7 h7 ht7 z0 z1 z2 z3 z4 z5 z6 z7 z8 z9
            obtain ⟨z0, z1, z2, z3, z4, z5, z6, z7, z8, z9⟩ := zone_cells k8
            have HB := Lib.hid h8
            clear h8
            go_wp2
            go_ret
            exact ⟨rfl, HB.out⟩
          · skip
            have hk5 : (k == 5) = false := beq_eq_false_iff_ne.2 ck
            have hm5 : (k' == 5) = false := beq_eq_false_iff_ne.2 cm
            have wk1 : wk k = k := by unfold wk; rw [if_neg ck]
            have wk2 : wk k' = k' := by unfold wk; rw [if_neg cm]
            rw [wk1] at hN e1
            rw [wk2] at hO e2
            have HN := Lib.hid hN
            have HO := Lib.hid hO
            have E1 := Lib.hid e1
            have E2 := Lib.hid e2
            clear wk1 wk2 hN hO e1 e2 ck cm
            go_enter Tryd.func19, Tryd.ntmps19
            go_wp2_with fail
            refine (zcheck_any _ _ _ _ _ _ _ _ _ _ 0 _ hz).mono ?_; rintro e w1 ⟨rfl, hb⟩
            have k1 := kA.kept hb
            have h1 := hA.trans (hb.mono hA.size)
            have ht1 := htA.below hb
            clear hb kA hA htA
            obtain ⟨z0, z1, z2, z3, z4, z5, z6, z7, z8, z9⟩ := zone_cells k1
            go_wp2_with fail
            refine (gnth_any _ _ _ _ _ ht1).mono ?_; rintro e w2 ⟨rfl, hb⟩
            have k2 := k1.kept hb
            have h2 := h1.trans (hb.mono h1.size)
            have ht2 := ht1.below hb
            clear hb k1 h1 ht1 z0 z1 z2 z3 z4 z5 z6 z7 z8 z9
            obtain ⟨z0, z1, z2, z3, z4, z5, z6, z7, z8, z9⟩ := zone_cells k2
            rw [HN.out, E1.out]
            go_wp2_with fail
            refine (gnth_any _ _ _ _ _ ht2).mono ?_; rintro e w3 ⟨rfl, hb⟩
            have k3 := k2.kept hb
            have h3 := h2.trans (hb.mono h2.size)
            have ht3 := ht2.below hb
            clear hb k2 h2 ht2 z0 z1 z2 z3 z4 z5 z6 z7 z8 z9
            obtain ⟨z0, z1, z2, z3, z4, z5, z6, z7, z8, z9⟩ := zone_cells k3
            rw [HO.out, E2.out]
            go_wp2_with fail
            refine (zsummer_ok _ _ _ _ _ _ _ _ _ _ A s _ ht3 rA hb1 hb2 q1).mono ?_; rintro e w4 ⟨rfl, hb⟩
            have k4 := k3.kept hb
            have h4 := h3.trans (hb.mono h3.size)
            have ht4 := ht3.below hb
            clear hb k3 h3 ht3 z0 z1 z2 z3 z4 z5 z6 z7 z8 z9
            obtain ⟨z0, z1, z2, z3, z4, z5, z6, z7, z8, z9⟩ := zone_cells k4
            go_wp2_with fail
            refine (zsummer_ok _ _ _ _ _ _ _ _ _ _ (A - 1) 0 _ ht4 rA1 hb1 hb2 q2).mono ?_; rintro e w5 ⟨rfl, hb⟩
            have k5 := k4.kept hb
            have h5 := h4.trans (hb.mono h4.size)
            have ht5 := ht4.below hb
            clear hb k4 h4 ht4 z0 z1 z2 z3 z4 z5 z6 z7 z8 z9
            obtain ⟨z0, z1, z2, z3, z4, z5, z6, z7, z8, z9⟩ := zone_cells k5
            go_wp2_with fail
            refine (zsummer_ok _ _ _ _ _ _ _ _ _ _ B 0 _ ht5 rB hb1 hb2 q3).mono ?_; rintro e w6 ⟨rfl, hb⟩
            have k6 := k5.kept hb
            have h6 := h5.trans (hb.mono h5.size)
            have ht6 := ht5.below hb
            clear hb k5 h5 ht5 z0 z1 z2 z3 z4 z5 z6 z7 z8 z9
            obtain ⟨z0, z1, z2, z3, z4, z5, z6, z7, z8, z9⟩ := zone_cells k6
            go_wp2_with fail
            refine (zsummer_ok _ _ _ _ _ _ _ _ _ _ (B - 1) s _ ht6 rB1 hb1 hb2 q4).mono ?_; rintro e w7 ⟨rfl, hb⟩
            have k7 := k6.kept hb
            have h7 := h6.trans (hb.mono h6.size)
            have ht7 := ht6.below hb
            clear hb k6 h6 ht6 z0 z1 z2 z3 z4 z5 z6 z7 z8 z9
            obtain ⟨z0, z1, z2, z3, z4, z5, z6, z7, z8, z9⟩ := zone_cells k7
            go_wp2_with fail
            refine (awake6 _ ht7).mono ?_; rintro e w8 ⟨rfl, hb⟩
            have k8 := k7.kept hb
            have h8 := h7.trans (hb.mono h7.size)
            have ht8 := ht7.below hb
            clear hb k7 h7 ht7 z0 z1 z2 z3 z4 z5 z6 z7 z8 z9
            obtain ⟨z0, z1, z2, z3, z4, z5, z6, z7, z8, z9⟩ := zone_cells k8
            have HB := Lib.hid h8
            clear h8
            go_wp2
            go_ret
            exact ⟨rfl, HB.out⟩
  · have h0 : zErr ⟨b, s, m, k, d, t, m', k', d', t'⟩ ≠ 0 := hz
    clear hz
    obtain ⟨r, hz⟩ : ∃ r, zErr ⟨b, s, m, k, d, t, m', k', d', t'⟩ = r := ⟨_, rfl⟩
    rw [hz] at h0
    have hne : (r != 0) = true := by simpa using h0
    go_enter Tryd.func19, Tryd.ntmps19
    go_wp2_with fail
    refine (zcheck_any _ _ _ _ _ _ _ _ _ _ r _ hz).mono ?_; rintro e w1 ⟨rfl, hb⟩
    have k1 := kA.kept hb
    have h1 := hA.trans (hb.mono hA.size)
    have ht1 := htA.below hb
    clear hb kA hA htA
    obtain ⟨z0, z1, z2, z3, z4, z5, z6, z7, z8, z9⟩ := zone_cells k1
    go_wp2_with fail
    refine (awake6 _ ht1).mono ?_; rintro e w2 ⟨rfl, hb⟩
    have k2 := k1.kept hb
    have h2 := h1.trans (hb.mono h1.size)
    have ht2 := ht1.below hb
    clear hb k1 h1 ht1 z0 z1 z2 z3 z4 z5 z6 z7 z8 z9
    obtain ⟨z0, z1, z2, z3, z4, z5, z6, z7, z8, z9⟩ := zone_cells k2
    have HB := Lib.hid h2
    clear h2
    go_wp2
    go_ret
    exact ⟨rfl, HB.out⟩

end Go.Proofs.YtdjfmcomeaijgaaDoor
