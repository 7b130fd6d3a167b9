/- FeastLists: the feasts of any year are the document's: the walk. -/
import Derived.Test.YtdjfmcomeaijgaaFP
namespace Go.Proofs.Ytdjfmcomeaijgaa
open Go Go.RowKit
set_option linter.unusedVariables false
set_option linter.unusedSimpArgs false

set_option maxHeartbeats 1000000 in
theorem walk_FeastLists (h : Int) (ab : Bool) (wh : (Lit.int .i64 h).wf = true) (w : World) : Calls Try.prog 16 #[.int .i64 h, .bool ab] w fun e w' => e = .returned (.bool true) ∧ Below w.heap.size w w' := by
  by_cases hy : Yr h
  · skip
    have hl : (feasts (ylen h) (ny h) ab).length < 1000000 := by rw [feasts_len]; cases ab <;> decide
    obtain ⟨xs, hx⟩ : ∃ xs, feasts (ylen h) (ny h) ab = xs := ⟨_, rfl⟩
    rw [hx] at hl
    have hx := Lib.hid hx
    go_enter Try.func16, Try.ntmps16
    go_wp2_with fail
    refine (flist_row _ _ xs _ hy hx.out).mono ?_; rintro e w1 ⟨out, rfl, ro, hb⟩
    have h1 := hb
    clear hb
    go_wp2_with fail
    refine (rmay_yes _ _ hy).mono ?_; rintro e w' ⟨rfl, rfl⟩
    go_wp2_with fail
    refine (awake5 _).mono ?_; rintro e w2 ⟨rfl, hb⟩
    have ro := ro.below hb
    have h2 := h1.trans (hb.mono h1.size)
    clear hb h1
    go_wp2_with fail
    refine (rflist_row _ _ xs _ hy hx.out).mono ?_; rintro e w3 ⟨out2, rfl, ro2, hb⟩
    have ro := ro.below hb
    have h3 := h2.trans (hb.mono h2.size)
    clear hb h2
    go_wp2_with fail
    refine (rfsame_any _ _ xs _ hl ro ro2).mono ?_; rintro e w4 ⟨rfl, hb⟩
    have h4 := h3.trans (hb.mono h3.size)
    clear hb h3
    have HB := Lib.hid h4
    clear h4
    go_wp2
    go_ret
    exact ⟨rfl, HB.out⟩
  · skip
    go_enter Try.func16, Try.ntmps16
    go_wp2_with fail
    refine (flist_no _ _ _ hy).mono ?_; rintro e w1 ⟨rfl, hb⟩
    have h1 := hb
    clear hb
    go_wp2_with fail
    refine (rmay_no _ _ hy).mono ?_; rintro e w' ⟨rfl, rfl⟩
    go_wp2_with fail
    refine (awake5 _).mono ?_; rintro e w2 ⟨rfl, hb⟩
    have h2 := h1.trans (hb.mono h1.size)
    clear hb h1
    have HB := Lib.hid h2
    clear h2
    go_wp2
    go_ret
    exact ⟨rfl, HB.out⟩

end Go.Proofs.Ytdjfmcomeaijgaa
