/- zone.Check: may a zone be? -/
import Derived.Test.YtdjfmcomeaijgaaDoorZ1
namespace Go.Proofs.YtdjfmcomeaijgaaDoor
open Go.RowKit
set_option linter.unusedVariables false
set_option linter.unusedSimpArgs false

theorem zErr_60 {z : Zn} (c : z.b < -720 ∨ 840 < z.b) : zErr z = 60 := by unfold zErr; rw [if_pos c]
theorem zErr_61 {z : Zn} (c : ¬ (z.b < -720 ∨ 840 < z.b)) (e : z.s < 0 ∨ 120 < z.s) : zErr z = 61 := by unfold zErr; rw [if_neg c, if_pos e]
theorem zErr_s {z : Zn} (c : ¬ (z.b < -720 ∨ 840 < z.b)) (e : z.s = 0) : zErr z = if zeroT z.m z.k z.d z.t = true ∧ zeroT z.m' z.k' z.d' z.t' = true then 0 else 62 := by unfold zErr; rw [if_neg c, if_neg (by omega), if_pos e]
theorem zErr_t {z : Zn} (c : ¬ (z.b < -720 ∨ 840 < z.b)) (e : 0 < z.s) (e2 : z.s ≤ 120) : zErr z = if tOk z.m z.k z.d z.t = true ∧ tOk z.m' z.k' z.d' z.t' = true ∧ 2 ≤ gapM z ∧ gapM z ≤ 10 then 0 else 62 := by unfold zErr; rw [if_neg c, if_neg (by omega), if_neg (by omega)]

set_option maxHeartbeats 2000000 in
theorem zcheck_any (b s m k d t m' k' d' t' r : Int) (w : World) (hr : zErr ⟨b, s, m, k, d, t, m', k', d', t'⟩ = r) :
    Calls Tryd.prog 43 #[.agg #[.int .i64 b, .int .i64 s, .int .i64 m, .int .i64 k, .int .i64 d, .int .i64 t, .int .i64 m', .int .i64 k', .int .i64 d', .int .i64 t']] w fun e w' => e = .returned (.int .i64 r) ∧ Below w.heap.size w w' := by
  have HR := Lib.hid hr
  clear hr
  have hA := (Below.refl w.heap.size w).alloc (Nat.le_refl _) (.cells #[.int .i64 b, .int .i64 s, .int .i64 m, .int .i64 k, .int .i64 d, .int .i64 t, .int .i64 m', .int .i64 k', .int .i64 d', .int .i64 t'] 49)
  have hA := Lib.hid (hA.alloc (by simp) (.cells #[.int .i64 0, .int .i64 0, .int .i64 0, .int .i64 0] 47))
  by_cases c1 : b < -720 ∨ 840 < b
  · have H := Lib.hid (HR.out.symm.trans (zErr_60 c1))
    have hw : (decide (-720 ≤ b) && decide (b ≤ 840)) = false := by simp; omega
    clear c1
    go_enter Tryd.func43, Tryd.ntmps43
    go_wp2_with fail
    refine (zwithin_any _ _ _ _).mono ?_; rintro e w' ⟨rfl, rfl⟩
    rw [hw]
    go_wp2_with fail
    go_ret
    exact ⟨one H.out.symm, hA.out⟩
  · have hw : (decide (-720 ≤ b) && decide (b ≤ 840)) = true := by simp; omega
    by_cases c2 : s < 0 ∨ 120 < s
    · have H := Lib.hid (HR.out.symm.trans (zErr_61 c1 c2))
      have hw2 : (decide (0 ≤ s) && decide (s ≤ 120)) = false := by simp; omega
      clear c1 c2
      go_enter Tryd.func43, Tryd.ntmps43
      go_wp2_with fail
      refine (zwithin_any _ _ _ _).mono ?_; rintro e w' ⟨rfl, rfl⟩
      rw [hw]
      go_wp2_with fail
      refine (zwithin_any _ _ _ _).mono ?_; rintro e w' ⟨rfl, rfl⟩
      rw [hw2]
      go_wp2_with fail
      go_ret
      exact ⟨one H.out.symm, hA.out⟩
    · have hw2 : (decide (0 ≤ s) && decide (s ≤ 120)) = true := by simp; omega
      by_cases c3 : s = 0
      · have H := Lib.hid (HR.out.symm.trans (zErr_s c1 c3))
        subst c3
        clear c1 c2
        go_enter Tryd.func43, Tryd.ntmps43
        go_wp2_with fail
        refine (zwithin_any _ _ _ _).mono ?_; rintro e w' ⟨rfl, rfl⟩
        rw [hw]
        go_wp2_with fail
        refine (zwithin_any _ _ _ _).mono ?_; rintro e w' ⟨rfl, rfl⟩
        go_wp2_with fail
        all_goals
          go_ret
          refine ⟨one ?_, ((Below.refl _ _).alloc (Nat.le_refl _) _).alloc (by simp) _⟩
          rw [H.out]
          unfold zeroT
          simp [*]
      · have c4 : 0 < s := by omega
        have c5 : s ≤ 120 := by omega
        have c6 : (s == 0) = false := beq_eq_false_iff_ne.2 c3
        have H := Lib.hid (HR.out.symm.trans (zErr_t c1 c4 c5))
        clear c1 c2 c3
        go_enter Tryd.func43, Tryd.ntmps43
        go_wp2_with fail
        refine (zwithin_any _ _ _ _).mono ?_; rintro e w' ⟨rfl, rfl⟩
        rw [hw]
        go_wp2_with fail
        refine (zwithin_any _ _ _ _).mono ?_; rintro e w' ⟨rfl, rfl⟩
        rw [hw2]
        have kz := (BlockIs.new w #[.int .i64 b, .int .i64 s, .int .i64 m, .int .i64 k, .int .i64 d, .int .i64 t, .int .i64 m', .int .i64 k', .int .i64 d', .int .i64 t'] 49).alloc (.cells #[.int .i64 0, .int .i64 0, .int .i64 0, .int .i64 0] 47)
        have hz2 : ((w.alloc (.cells #[.int .i64 b, .int .i64 s, .int .i64 m, .int .i64 k, .int .i64 d, .int .i64 t, .int .i64 m', .int .i64 k', .int .i64 d', .int .i64 t'] 49)).alloc (.cells #[.int .i64 0, .int .i64 0, .int .i64 0, .int .i64 0] 47)).heap.size = w.heap.size + 1 + 1 := by simp
        go_wp2_with fail
        generalize ((w.alloc (.cells #[.int .i64 b, .int .i64 s, .int .i64 m, .int .i64 k, .int .i64 d, .int .i64 t, .int .i64 m', .int .i64 k', .int .i64 d', .int .i64 t'] 49)).alloc (.cells #[.int .i64 0, .int .i64 0, .int .i64 0, .int .i64 0] 47)) = W1 at *
        have bL := BlockIs.new W1 #[.int .i64 m, .int .i64 k, .int .i64 d, .int .i64 t, .int .i64 m', .int .i64 k', .int .i64 d', .int .i64 t'] 47
        rw [hz2] at bL
        refine (tcontains_ok _ _ _ _ _ _ _ _ _ _ bL).mono ?_; rintro e w2 ⟨rfl, hb2⟩
        have kz2 := (kz.alloc (.cells #[.int .i64 m, .int .i64 k, .int .i64 d, .int .i64 t, .int .i64 m', .int .i64 k', .int .i64 d', .int .i64 t'] 47)).kept hb2
        have hB1 := hA.out.alloc hA.out.size (.cells #[.int .i64 m, .int .i64 k, .int .i64 d, .int .i64 t, .int .i64 m', .int .i64 k', .int .i64 d', .int .i64 t'] 47)
        have hB2 := Lib.hid (hB1.trans (hb2.mono hB1.size))
        clear hB1 hb2 bL kz hz2
        rcases Bool.eq_false_or_eq_true (tOk m k d t && tOk m' k' d' t') with h0 | h0
        · have H0 := Lib.hid h0
          obtain ⟨h3, h4⟩ := (Bool.and_eq_true _ _).mp h0
          have H3 := Lib.hid h3
          have H4 := Lib.hid h4
          have mo := tOk_iff.1 h3
          have mo' := tOk_iff.1 h4
          rw [h0]
          clear h0 h3 h4
          have q2 : w2.cell? ⟨w.heap.size, 2, none⟩ = some (.int .i64 m) := kz2.cell rfl
          have q6 : w2.cell? ⟨w.heap.size, 6, none⟩ = some (.int .i64 m') := kz2.cell rfl
          clear kz2
          go_wp2_with fail
          all_goals
            refine (zwithin_any _ _ _ _).mono ?_; rintro e w' ⟨rfl, rfl⟩
            go_wp2
          all_goals
            go_ret
            refine ⟨one ?_, hB2.out⟩
            rw [H.out]
            try simp only [Bool.not_eq_true', Bool.not_eq_false', decide_eq_true_eq, decide_eq_false_iff_not] at *
            by_cases hg : 2 ≤ gapM ⟨b, s, m, k, d, t, m', k', d', t'⟩ ∧ gapM ⟨b, s, m, k, d, t, m', k', d', t'⟩ ≤ 10
            · first
                | (rw [if_pos ⟨H3.out, H4.out, hg⟩]; done)
                | (exfalso; unfold gapM at hg; dsimp only at hg; split at hg <;> omega)
            · first
                | (rw [if_neg (fun h => hg h.2.2)]; done)
                | (exfalso; unfold gapM at hg; dsimp only at hg; split at hg <;> omega)
        · have H0 := Lib.hid h0
          rw [h0]
          clear h0 kz2
          go_wp2_with fail
          go_ret
          refine ⟨one ?_, hB2.out⟩
          rw [H.out, if_neg]
          intro ⟨h3, h4, _⟩
          have := H0.out
          rw [show tOk m k d t = true from h3, show tOk m' k' d' t' = true from h4] at this
          cases this

end Go.Proofs.YtdjfmcomeaijgaaDoor
