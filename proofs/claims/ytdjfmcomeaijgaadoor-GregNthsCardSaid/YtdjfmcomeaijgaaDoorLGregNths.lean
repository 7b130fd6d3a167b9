/- GregNths: the day of any month's weekday is the document's: the walk. -/
import Derived.Test.YtdjfmcomeaijgaaDoorG4
import Derived.Test.YtdjfmcomeaijgaaDoorGN
namespace Go.Proofs.YtdjfmcomeaijgaaDoor
open Go.RowKit
set_option linter.unusedVariables false
set_option linter.unusedSimpArgs false

set_option maxHeartbeats 2000000 in
theorem walk_GregNths (y m d wd k : Int) (wy : (Lit.int .i64 y).wf = true) (wm : (Lit.int .i64 m).wf = true) (w0 : (Lit.int .i64 d).wf = true) (w1 : (Lit.int .i64 wd).wf = true) (wk : (Lit.int .i64 k).wf = true) (w : World) (ht : Tab w) :
    Calls Tryd.prog 5 #[.agg #[.int .i64 y, .int .i64 m, .int .i64 d], .int .i64 wd, .int .i64 k] w fun e w' => e = .returned (.bool true) ∧ Below w.heap.size w w' := by
  clear wy wm w0 w1 wk
  have hA := (Below.refl w.heap.size w).alloc (Nat.le_refl _) (.cells #[.int .i64 y, .int .i64 m, .int .i64 d] 23)
  have htA := ht.below hA
  have bA := BlockIs.new w #[.int .i64 y, .int .i64 m, .int .i64 d] 23
  go_enter Tryd.func5, Tryd.ntmps5
  go_wp2_with fail
  refine (gnth_any _ _ _ _ _ htA).mono ?_; rintro e w1 ⟨rfl, hb1⟩
  have ht1 := htA.below hb1
  have b1 := bA.kept hb1
  have c0 : w1.cell? ⟨w.heap.size, 0, none⟩ = some (.int .i64 y) := b1.cell rfl
  have c1 : w1.cell? ⟨w.heap.size, 1, none⟩ = some (.int .i64 m) := b1.cell rfl
  go_wp2_with fail
  refine (rnth_any _ _ _ _ _).mono ?_; rintro e w2 ⟨rfl, hb2⟩
  have ht2 := ht1.below hb2
  go_wp2_with fail
  refine (awake2 _ ht2).mono ?_; rintro e w3 ⟨rfl, hb3⟩
  have hB := Lib.hid (below_two (below_two (hA.trans (hb1.mono (by simp))) hb2) hb3)
  clear hb1 hb2 hb3 hA htA ht1 ht2 bA b1 c0 c1
  go_wp2
  go_ret
  exact ⟨rfl, hB.out⟩

end Go.Proofs.YtdjfmcomeaijgaaDoor
