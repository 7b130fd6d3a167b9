/- zone.Summer and zone.Local. -/
import Derived.Test.YtdjfmcomeaijgaaDoorZ6
namespace Go.Proofs.YtdjfmcomeaijgaaDoor
open Go.RowKit
set_option linter.unusedVariables false
set_option linter.unusedSimpArgs false

theorem zErr_turns {z : Zn} (h : zErr z = 0) : z.s ≠ 0 → tOk z.m z.k z.d z.t = true ∧ tOk z.m' z.k' z.d' z.t' = true := by
  intro c
  unfold zErr at h
  split at h
  · cases h
  · split at h
    · cases h
    · split at h
      · rename_i x; exact ⟨x.1, x.2.1⟩
      · cases h
theorem zErr_sb {z : Zn} (h : zErr z = 0) : 0 ≤ z.s ∧ z.s ≤ 120 := by
  unfold zErr at h
  split at h
  · cases h
  · split at h
    · cases h
    · omega

end Go.Proofs.YtdjfmcomeaijgaaDoor
