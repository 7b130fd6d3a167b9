/- FeastRows: the days of rest that touch any day of rest are the document's: the walk. -/
import Derived.Test.YtdjfmcomeaijgaaFP
namespace Go.Proofs.Ytdjfmcomeaijgaa
open Go Go.RowKit
set_option linter.unusedVariables false
set_option linter.unusedSimpArgs false

set_option maxHeartbeats 1000000 in
theorem walk_FeastRows (n : Int) (ab : Bool) (wn : (Lit.int .i64 n).wf = true) (w : World) : Calls Try.prog 17 #[.int .i64 n, .bool ab] w fun e w' => e = .returned (.bool true) ∧ Below w.heap.size w w' := by
  have hn := i64_of wn
  by_cases hr : RestP n ab
  · skip
    obtain ⟨a, b, h1, h2, h3, hin, ha, hb⟩ := row_ex hr
    have bd := restP_bd hr
    have HI := Lib.hid hin
    have HA := Lib.hid ha
    have HB0 := Lib.hid hb
    have HR := Lib.hid hr
    clear hin ha hb hr
    go_enter Try.func17, Try.ntmps17
    go_wp2_with fail
    refine (fRun_ok n a b ab _ h1 h2 h3 HI.out HA.out HB0.out).mono ?_; rintro e w1 ⟨rfl, hb⟩
    have q1 := hb
    clear hb
    go_wp2_with fail
    refine (rfRest_yes _ _ _ (by unfold I64; omega) HR.out).mono ?_; rintro e w2 ⟨rfl, hb⟩
    have q2 := q1.trans (hb.mono q1.size)
    clear hb q1
    go_wp2_with fail
    refine (rfRun_ok n a b ab _ h1 h2 h3 HI.out HA.out HB0.out).mono ?_; rintro e w3 ⟨rfl, hb⟩
    have q3 := q2.trans (hb.mono q2.size)
    clear hb q2
    have k4 := BlockIs.new w3 #[.int .i64 a, .int .i64 b] 53
    have q4 := q3.alloc q3.size (.cells #[.int .i64 a, .int .i64 b] 53)
    go_wp2_with fail
    refine (awake5 _).mono ?_; rintro e w4 ⟨rfl, hb⟩
    have k5 := k4.kept hb
    have c0 : w4.cell? ⟨w3.heap.size, 0, none⟩ = some (.int .i64 a) := k5.cell rfl
    have c1 : w4.cell? ⟨w3.heap.size, 1, none⟩ = some (.int .i64 b) := k5.cell rfl
    have HB := Lib.hid (q4.trans (hb.mono q4.size))
    clear hb q3 q4 k4 k5
    go_wp2
    go_ret
    exact ⟨rfl, HB.out⟩
  · skip
    have HR := Lib.hid hr
    clear hr
    go_enter Try.func17, Try.ntmps17
    go_wp2_with fail
    refine (fRun_no n ab _ hn HR.out).mono ?_; rintro e w1 ⟨rfl, hb⟩
    have h1 := hb
    clear hb
    go_wp2_with fail
    refine (rfRest_no _ _ _ hn HR.out).mono ?_; rintro e w2 ⟨rfl, hb⟩
    have h2 := h1.trans (hb.mono h1.size)
    clear hb h1
    go_wp2_with fail
    refine (awake5 _).mono ?_; rintro e w3 ⟨rfl, hb⟩
    have h3 := h2.trans (hb.mono h2.size)
    clear hb h2
    have HB := Lib.hid h3
    clear h3
    go_wp2
    go_ret
    exact ⟨rfl, HB.out⟩

end Go.Proofs.Ytdjfmcomeaijgaa
