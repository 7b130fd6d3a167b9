/- zone.Summer: are clocks shifted? -/
import Derived.Test.YtdjfmcomeaijgaaDoorZ7
namespace Go.Proofs.YtdjfmcomeaijgaaDoor
open Go.RowKit
set_option linter.unusedVariables false
set_option linter.unusedSimpArgs false

theorem tErr_0 {z : Zn} {u : Int} (h : tErr z u = 0) : zErr z = 0 ∧ 576000 ≤ u ∧ u ≤ 5258879999 := by
  unfold tErr at h
  split at h
  · contradiction
  · split at h
    · cases h
    · omega

set_option maxHeartbeats 1000000 in
theorem zsummer_no (b s m k d t m' k' d' t' u r : Int) (w : World) (hr : tErr ⟨b, s, m, k, d, t, m', k', d', t'⟩ u = r) (h0 : r ≠ 0) :
    Calls Tryd.prog 45 #[.agg #[.int .i64 b, .int .i64 s, .int .i64 m, .int .i64 k, .int .i64 d, .int .i64 t, .int .i64 m', .int .i64 k', .int .i64 d', .int .i64 t'], .int .i64 u] w fun e w' => e = .returned (.tuple #[.bool false, .int .i64 r]) ∧ Below w.heap.size w w' := by
  have hA := (Below.refl w.heap.size w).alloc (Nat.le_refl _) (.cells #[.int .i64 b, .int .i64 s, .int .i64 m, .int .i64 k, .int .i64 d, .int .i64 t, .int .i64 m', .int .i64 k', .int .i64 d', .int .i64 t'] 49)
  have hne : (r != 0) = true := by simpa using h0
  go_enter Tryd.func45, Tryd.ntmps45
  go_wp2_with fail
  refine (ztime_any _ _ _ _ _ _ _ _ _ _ _ r _ hr).mono ?_; rintro e w1 ⟨rfl, hb⟩
  have hB := Lib.hid (hA.trans (hb.mono hA.size))
  clear hb
  go_wp2
  go_ret2
  exact ⟨rfl, hB.out⟩

end Go.Proofs.YtdjfmcomeaijgaaDoor
