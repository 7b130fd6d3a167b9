/- HebrewDays: any date's number is the document's: the walk. -/
import Derived.Test.YtdjfmcomeaijgaaH7
namespace Go.Proofs.Ytdjfmcomeaijgaa
open Go.RowKit
set_option linter.unusedVariables false
set_option linter.unusedSimpArgs false

set_option maxHeartbeats 1000000 in
theorem walk_HebrewDays (h m d : Int) (wh : (Lit.int .i64 h).wf = true) (wm : (Lit.int .i64 m).wf = true) (wd : (Lit.int .i64 d).wf = true) (w : World) : Calls Try.prog 10 #[.agg #[.int .i64 h, .int .i64 m, .int .i64 d]] w fun e w' => e = .returned (.bool true) ∧ Below w.heap.size w w' := by
  clear wh wm wd
  have hA := (Below.refl w.heap.size w).alloc (Nat.le_refl _) (.cells #[.int .i64 h, .int .i64 m, .int .i64 d] 36)
  have bA := BlockIs.new w #[.int .i64 h, .int .i64 m, .int .i64 d] 36
  by_cases c : HMay h m d
  · have hc : decide (HMay h m d) = true := by simpa using c
    have HC := Lib.hid hc
    clear hc
    go_enter Try.func10, Try.ntmps10
    go_wp2_with fail
    refine (hday_ok _ _ _ _ c).mono ?_; rintro e w1 ⟨rfl, hb1⟩
    have b1 := bA.kept hb1
    have hB1 := hA.trans (hb1.mono (by simp))
    have c0 : w1.cell? ⟨w.heap.size, 0, none⟩ = some (.int .i64 h) := b1.cell rfl
    have c1 : w1.cell? ⟨w.heap.size, 1, none⟩ = some (.int .i64 m) := b1.cell rfl
    have c2 : w1.cell? ⟨w.heap.size, 2, none⟩ = some (.int .i64 d) := b1.cell rfl
    clear hb1 hA bA
    go_wp2_with fail
    refine (rhmay_any _ _ _ _).mono ?_; rintro e w2 ⟨rfl, hb2⟩
    rw [HC.out]
    have b2 := b1.kept hb2
    have hB2 := hB1.trans (hb2.mono hB1.size)
    clear hb2 hB1 b1 c0 c1 c2
    go_wp2_with fail
    refine (awake4 _).mono ?_; rintro e w3 ⟨rfl, hb3⟩
    have b3 := b2.kept hb3
    have hB3 := hB2.trans (hb3.mono hB2.size)
    have c0 : w3.cell? ⟨w.heap.size, 0, none⟩ = some (.int .i64 h) := b3.cell rfl
    have c1 : w3.cell? ⟨w.heap.size, 1, none⟩ = some (.int .i64 m) := b3.cell rfl
    have c2 : w3.cell? ⟨w.heap.size, 2, none⟩ = some (.int .i64 d) := b3.cell rfl
    clear hb3 hB2 b2
    go_wp2_with fail
    refine (rhday_ok _ _ _ _ c).mono ?_; rintro e w4 ⟨rfl, hb4⟩
    have hB := Lib.hid (hB3.trans (hb4.mono hB3.size))
    clear hb4 hB3
    go_wp2
    go_ret
    exact ⟨rfl, hB.out⟩
  · have hc : decide (HMay h m d) = false := by simpa using c
    have HC := Lib.hid hc
    clear hc
    go_enter Try.func10, Try.ntmps10
    go_wp2_with fail
    refine (hday_no _ _ _ _ c).mono ?_; rintro e w1 ⟨rfl, hb1⟩
    have b1 := bA.kept hb1
    have hB1 := hA.trans (hb1.mono (by simp))
    have c0 : w1.cell? ⟨w.heap.size, 0, none⟩ = some (.int .i64 h) := b1.cell rfl
    have c1 : w1.cell? ⟨w.heap.size, 1, none⟩ = some (.int .i64 m) := b1.cell rfl
    have c2 : w1.cell? ⟨w.heap.size, 2, none⟩ = some (.int .i64 d) := b1.cell rfl
    clear hb1 hA bA
    go_wp2_with fail
    refine (rhmay_any _ _ _ _).mono ?_; rintro e w2 ⟨rfl, hb2⟩
    rw [HC.out]
    have b2 := b1.kept hb2
    have hB2 := hB1.trans (hb2.mono hB1.size)
    clear hb2 hB1 b1 c0 c1 c2
    go_wp2_with fail
    refine (awake4 _).mono ?_; rintro e w3 ⟨rfl, hb3⟩
    have b3 := b2.kept hb3
    have hB3 := hB2.trans (hb3.mono hB2.size)
    have c0 : w3.cell? ⟨w.heap.size, 0, none⟩ = some (.int .i64 h) := b3.cell rfl
    have c1 : w3.cell? ⟨w.heap.size, 1, none⟩ = some (.int .i64 m) := b3.cell rfl
    have c2 : w3.cell? ⟨w.heap.size, 2, none⟩ = some (.int .i64 d) := b3.cell rfl
    clear hb3 hB2 b2
    have hB := Lib.hid hB3
    clear hB3
    go_wp2
    go_ret
    exact ⟨rfl, hB.out⟩

end Go.Proofs.Ytdjfmcomeaijgaa
