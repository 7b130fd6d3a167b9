/- FeastTouch: no more than three days of rest touch: the walk. -/
import Derived.Test.YtdjfmcomeaijgaaFP
namespace Go.Proofs.Ytdjfmcomeaijgaa
open Go Go.RowKit
set_option linter.unusedVariables false
set_option linter.unusedSimpArgs false

set_option maxHeartbeats 2000000 in
theorem walk_FeastTouch (n : Int) (ab : Bool) (wn : (Lit.int .i64 n).wf = true) (w : World) : Calls Try.prog 18 #[.int .i64 n, .bool ab] w fun e w' => e = .returned (.bool true) ∧ Below w.heap.size w w' := by
  have hn := i64_of wn
  by_cases hr : RestP n ab
  · obtain ⟨a, b, g1, g2, g3, hin, ha, hb⟩ := row_ex hr
    have bd := restP_bd hr
    obtain ⟨bd1, bd2⟩ := bd
    obtain ⟨L, hL⟩ : ∃ L : Nat, b - a = L := ⟨(b - a).toNat, by omega⟩
    have hL2 : L ≤ 2 := by omega
    have HI := Lib.hid hin
    have HA := Lib.hid ha
    have HB0 := Lib.hid hb
    have HR := Lib.hid hr
    have HL := Lib.hid hL
    clear hin ha hb hr hL
    go_enter Try.func18, Try.ntmps18
    go_wp2_with fail
    refine (fRun_ok n a b ab _ g1 g2 g3 HI.out HA.out HB0.out).mono ?_; rintro e w1 ⟨rfl, q1⟩
    go_wp2_with fail
    refine (fRest_no _ _ _ (by unfold I64; omega) HA.out).mono ?_; rintro e w2 ⟨rfl, hb⟩
    have q2 := q1.trans (hb.mono q1.size)
    clear hb q1
    go_wp2_with fail
    refine (fRest_no _ _ _ (by unfold I64; omega) HB0.out).mono ?_; rintro e w3 ⟨rfl, hb⟩
    have q3 := q2.trans (hb.mono q2.size)
    clear hb q2
    go_wp2_with fail
    go_loopw [8, 9, 10, 11] (fun x _ _ _ wr => ∃ i : Nat, i ≤ L + 1 ∧ x = .int .i64 (a + i) ∧ Below w.heap.size w wr) (fun x _ _ _ _ => (a + L + 1 - intOf x).toNat)
    case atStart => exact ⟨0, by omega, by simp, q3⟩
    case round =>
      clear q3
      obtain ⟨i, hi, rfl, hB⟩ := hrel
      have eb : b = a + L := by have := HL.out; omega
      by_cases c : i ≤ L
      · have cb : decide (a + (i : Int) ≤ b) = true := by simp; omega
        clear eb
        go_wp2_with fail
        refine (fRun_ok _ a b ab _ (by omega) (by have := HL.out; omega) g3 HI.out HA.out HB0.out).mono ?_; rintro e w4 ⟨rfl, hb⟩
        have hB4 := hB.trans (hb.mono hB.size)
        clear hb cb
        go_wp2_with fail
        refine (fRest_yes _ _ _ (by unfold I64; omega) (HI.out _ (by omega) (by have := HL.out; omega))).mono ?_; rintro e w5 ⟨rfl, hb⟩
        have hB5 := hB4.trans (hb.mono hB4.size)
        clear hb hB4
        go_wp2_with fail
        go_round
        case rel => exact ⟨i + 1, by omega, by go_num, hB5⟩
        case measure => simp [intOf]; omega
      · have cb : decide (a + (i : Int) ≤ b) = false := by simp; omega
        clear eb
        go_wp2_with fail
        refine (awake5 _).mono ?_; rintro e w4 ⟨rfl, hb⟩
        have hB4 := Lib.hid (hB.trans (hb.mono hB.size))
        clear hb
        go_wp2
        go_ret
        exact ⟨rfl, hB4.out⟩
  · skip
    have HR := Lib.hid hr
    clear hr
    go_enter Try.func18, Try.ntmps18
    go_wp2_with fail
    refine (fRun_no n ab _ hn HR.out).mono ?_; rintro e w1 ⟨rfl, hb⟩
    have h1 := hb
    clear hb
    go_wp2_with fail
    refine (awake5 _).mono ?_; rintro e w2 ⟨rfl, hb⟩
    have h2 := h1.trans (hb.mono h1.size)
    clear hb h1
    go_wp2_with fail
    refine (fRest_no _ _ _ hn HR.out).mono ?_; rintro e w3 ⟨rfl, hb⟩
    have h3 := h2.trans (hb.mono h2.size)
    clear hb h2
    have HB := Lib.hid h3
    clear h3
    go_wp2
    go_ret
    exact ⟨rfl, HB.out⟩

end Go.Proofs.Ytdjfmcomeaijgaa
