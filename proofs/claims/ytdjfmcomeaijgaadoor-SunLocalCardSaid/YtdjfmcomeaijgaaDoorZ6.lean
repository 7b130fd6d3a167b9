/- zone.check: is an instant of a zone reckoned? -/
import Derived.Test.YtdjfmcomeaijgaaDoorZ5
namespace Go.Proofs.YtdjfmcomeaijgaaDoor
open Go.RowKit
set_option linter.unusedVariables false
set_option linter.unusedSimpArgs false

/-- Is an instant of a zone reckoned? -/
def tErr (z : Zn) (u : Int) : Int := if zErr z ≠ 0 then zErr z else if u < 576000 ∨ 5258879999 < u then 63 else 0

set_option maxHeartbeats 1000000 in
theorem ztime_any (b s m k d t m' k' d' t' u r : Int) (w : World) (hr : tErr ⟨b, s, m, k, d, t, m', k', d', t'⟩ u = r) :
    Calls Tryd.prog 67 #[.agg #[.int .i64 b, .int .i64 s, .int .i64 m, .int .i64 k, .int .i64 d, .int .i64 t, .int .i64 m', .int .i64 k', .int .i64 d', .int .i64 t'], .int .i64 u] w fun e w' => e = .returned (.int .i64 r) ∧ Below w.heap.size w w' := by
  have HR := Lib.hid hr
  clear hr
  have hA := (Below.refl w.heap.size w).alloc (Nat.le_refl _) (.cells #[.int .i64 b, .int .i64 s, .int .i64 m, .int .i64 k, .int .i64 d, .int .i64 t, .int .i64 m', .int .i64 k', .int .i64 d', .int .i64 t'] 49)
  by_cases c : zErr ⟨b, s, m, k, d, t, m', k', d', t'⟩ = 0
  · by_cases c2 : u < 576000 ∨ 5258879999 < u
    · have H := Lib.hid (HR.out.symm.trans (show tErr ⟨b, s, m, k, d, t, m', k', d', t'⟩ u = 63 by unfold tErr; rw [if_neg (by omega), if_pos c2]))
      have hw : (decide (576000 ≤ u) && decide (u ≤ 5258879999)) = false := by simp; omega
      clear c2
      go_enter Tryd.func67, Tryd.ntmps67
      go_wp2_with fail
      refine (zcheck_any _ _ _ _ _ _ _ _ _ _ 0 _ c).mono ?_; rintro e w1 ⟨rfl, hb⟩
      have hB := Lib.hid (hA.trans (hb.mono hA.size))
      clear hb
      go_wp2_with fail
      refine (zwithin_any _ _ _ _).mono ?_; rintro e w' ⟨rfl, rfl⟩
      rw [hw]
      go_wp2
      go_ret
      exact ⟨one H.out.symm, hB.out⟩
    · have H := Lib.hid (HR.out.symm.trans (show tErr ⟨b, s, m, k, d, t, m', k', d', t'⟩ u = 0 by unfold tErr; rw [if_neg (by omega), if_neg c2]))
      have hw : (decide (576000 ≤ u) && decide (u ≤ 5258879999)) = true := by simp; omega
      clear c2
      go_enter Tryd.func67, Tryd.ntmps67
      go_wp2_with fail
      refine (zcheck_any _ _ _ _ _ _ _ _ _ _ 0 _ c).mono ?_; rintro e w1 ⟨rfl, hb⟩
      have hB := Lib.hid (hA.trans (hb.mono hA.size))
      clear hb
      go_wp2_with fail
      refine (zwithin_any _ _ _ _).mono ?_; rintro e w' ⟨rfl, rfl⟩
      rw [hw]
      go_wp2
      go_ret
      exact ⟨one H.out.symm, hB.out⟩
  · have H := Lib.hid (HR.out.symm.trans (show tErr ⟨b, s, m, k, d, t, m', k', d', t'⟩ u = zErr ⟨b, s, m, k, d, t, m', k', d', t'⟩ by unfold tErr; rw [if_pos c]))
    generalize hE : zErr ⟨b, s, m, k, d, t, m', k', d', t'⟩ = E at *
    have hne : (E != 0) = true := by simpa using c
    go_enter Tryd.func67, Tryd.ntmps67
    go_wp2_with fail
    refine (zcheck_any _ _ _ _ _ _ _ _ _ _ E _ hE).mono ?_; rintro e w1 ⟨rfl, hb⟩
    have hB := Lib.hid (hA.trans (hb.mono hA.size))
    clear hb
    go_wp2
    go_ret
    exact ⟨one H.out.symm, hB.out⟩

end Go.Proofs.YtdjfmcomeaijgaaDoor
