/- The reference's test of a zone. -/
import Derived.Test.YtdjfmcomeaijgaaDoorZ2
namespace Go.Proofs.YtdjfmcomeaijgaaDoor
open Go.RowKit
set_option linter.unusedVariables false
set_option linter.unusedSimpArgs false

set_option maxHeartbeats 1000000 in
theorem rturn_any (m k d t : Int) (w : World) : Calls Tryd.prog 66 #[.agg #[.int .i64 m, .int .i64 k, .int .i64 d, .int .i64 t]] w fun e w' => e = .returned (.bool (tOk m k d t)) ∧ Below w.heap.size w w' := by
  have hB := (Below.refl w.heap.size w).alloc (Nat.le_refl _) (.cells #[.int .i64 m, .int .i64 k, .int .i64 d, .int .i64 t] 47)
  have HB := Lib.hid hB
  clear hB
  go_enter Tryd.func66, Tryd.ntmps66
  go_wp2
  all_goals
    go_ret
    refine ⟨boolE ?_, HB.out⟩
    unfold tOk
    simp_all <;> omega

set_option maxHeartbeats 2000000 in
theorem rzcheck_any (b s m k d t m' k' d' t' r : Int) (w : World) (hr : zErr ⟨b, s, m, k, d, t, m', k', d', t'⟩ = r) (hm : I64 m) (hm' : I64 m') :
    Calls Tryd.prog 44 #[.agg #[.int .i64 b, .int .i64 s, .int .i64 m, .int .i64 k, .int .i64 d, .int .i64 t, .int .i64 m', .int .i64 k', .int .i64 d', .int .i64 t']] w fun e w' => e = .returned (.int .i64 r) ∧ Below w.heap.size w w' := by
  have HR := Lib.hid hr
  clear hr
  have hA0 := (Below.refl w.heap.size w).alloc (Nat.le_refl _) (.cells #[.int .i64 b, .int .i64 s, .int .i64 m, .int .i64 k, .int .i64 d, .int .i64 t, .int .i64 m', .int .i64 k', .int .i64 d', .int .i64 t'] 49)
  have hA := Lib.hid (hA0.alloc (by simp) (.cells #[.int .i64 0, .int .i64 0, .int .i64 0, .int .i64 0] 47))
  have hA0 := Lib.hid hA0
  by_cases c1 : b < -720 ∨ 840 < b
  · have H := Lib.hid (HR.out.symm.trans (zErr_60 c1))
    have c1' : b < -720 ∨ (-720 ≤ b ∧ 840 < b) := by omega
    clear c1
    rcases c1' with c1 | ⟨c1, c1'⟩
    all_goals
      go_enter Tryd.func44, Tryd.ntmps44
      go_wp2_with fail
      go_ret
      exact ⟨one H.out.symm, hA0.out⟩
  · have c1a : -720 ≤ b := by omega
    have c1b : b ≤ 840 := by omega
    by_cases c2 : s < 0 ∨ 120 < s
    · have H := Lib.hid (HR.out.symm.trans (zErr_61 c1 c2))
      have c2' : s < 0 ∨ (0 ≤ s ∧ 120 < s) := by omega
      clear c1 c2
      rcases c2' with c2 | ⟨c2, c2'⟩
      all_goals
        go_enter Tryd.func44, Tryd.ntmps44
        go_wp2_with fail
        go_ret
        exact ⟨one H.out.symm, hA0.out⟩
    · by_cases c3 : s = 0
      · have H := Lib.hid (HR.out.symm.trans (zErr_s c1 c3))
        subst c3
        clear c1 c2
        go_enter Tryd.func44, Tryd.ntmps44
        go_wp2_with fail
        all_goals
          go_ret
          refine ⟨one ?_, ((Below.refl _ _).alloc (Nat.le_refl _) _).alloc (by simp) _⟩
          rw [H.out]
          unfold zeroT
          simp [*]
      · have c4 : 0 < s := by omega
        have c5 : s ≤ 120 := by omega
        have c6 : (s == 0) = false := beq_eq_false_iff_ne.2 c3
        have H := Lib.hid (HR.out.symm.trans (zErr_t c1 c4 c5))
        clear c1 c2 c3
        have kz := (BlockIs.new w #[.int .i64 b, .int .i64 s, .int .i64 m, .int .i64 k, .int .i64 d, .int .i64 t, .int .i64 m', .int .i64 k', .int .i64 d', .int .i64 t'] 49).alloc (.cells #[.int .i64 0, .int .i64 0, .int .i64 0, .int .i64 0] 47)
        go_enter Tryd.func44, Tryd.ntmps44
        go_wp2_with fail
        refine (rturn_any _ _ _ _ _).mono ?_; rintro e w1 ⟨rfl, hb1⟩
        have kz1 := kz.kept hb1
        have hB1 := hA.out.trans (hb1.mono hA.out.size)
        have q6 : w1.cell? ⟨w.heap.size, 6, none⟩ = some (.int .i64 m') := kz1.cell rfl
        have q7 : w1.cell? ⟨w.heap.size, 7, none⟩ = some (.int .i64 k') := kz1.cell rfl
        have q8 : w1.cell? ⟨w.heap.size, 8, none⟩ = some (.int .i64 d') := kz1.cell rfl
        have q9 : w1.cell? ⟨w.heap.size, 9, none⟩ = some (.int .i64 t') := kz1.cell rfl
        clear hb1 kz
        go_wp2_with fail
        refine (rturn_any _ _ _ _ _).mono ?_; rintro e w2 ⟨rfl, hb2⟩
        have kz2 := kz1.kept hb2
        have hB2 := Lib.hid (hB1.trans (hb2.mono hB1.size))
        clear hb2 hB1 kz1 q6 q7 q8 q9
        have q2 : w2.cell? ⟨w.heap.size, 2, none⟩ = some (.int .i64 m) := kz2.cell rfl
        have q6 : w2.cell? ⟨w.heap.size, 6, none⟩ = some (.int .i64 m') := kz2.cell rfl
        clear kz2
        unfold I64 at hm hm'
        rcases (Bool.eq_false_or_eq_true (tOk m k d t)).symm with h3 | h3
        · have H3 := Lib.hid h3
          rw [h3]
          clear h3
          go_wp2
          all_goals
            go_ret
            refine ⟨one ?_, hB2.out⟩
            rw [H.out, if_neg]
            intro ⟨x, _, _⟩
            have := H3.out
            rw [show tOk m k d t = true from x] at this
            cases this
        · have H3 := Lib.hid h3
          have mo := tOk_iff.1 h3
          rcases (Bool.eq_false_or_eq_true (tOk m' k' d' t')).symm with h4 | h4
          · have H4 := Lib.hid h4
            rw [h3, h4]
            clear h3 h4
            go_wp2
            all_goals
              go_ret
              refine ⟨one ?_, hB2.out⟩
              rw [H.out, if_neg]
              intro ⟨_, x, _⟩
              have := H4.out
              rw [show tOk m' k' d' t' = true from x] at this
              cases this
          · have H4 := Lib.hid h4
            have mo' := tOk_iff.1 h4
            rw [h3, h4]
            clear h3 h4
            go_wp2
            all_goals
              go_ret
              refine ⟨one ?_, hB2.out⟩
              rw [H.out]
              try simp only [Bool.not_eq_true', Bool.not_eq_false', decide_eq_true_eq, decide_eq_false_iff_not] at *
              by_cases hg : 2 ≤ gapM ⟨b, s, m, k, d, t, m', k', d', t'⟩ ∧ gapM ⟨b, s, m, k, d, t, m', k', d', t'⟩ ≤ 10
              · first
                  | (rw [if_pos ⟨H3.out, H4.out, hg⟩]; done)
                  | (exfalso; unfold gapM at hg; dsimp only at hg; split at hg <;> omega)
              · first
                  | (rw [if_neg (fun h => hg h.2.2)]; done)
                  | (exfalso; unfold gapM at hg; dsimp only at hg; split at hg <;> omega)

end Go.Proofs.YtdjfmcomeaijgaaDoor
