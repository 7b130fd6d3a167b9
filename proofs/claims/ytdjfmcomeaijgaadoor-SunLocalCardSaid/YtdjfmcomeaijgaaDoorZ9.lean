/- zone.Summer at an instant that is reckoned. -/
import Derived.Test.YtdjfmcomeaijgaaDoorZ8
namespace Go.Proofs.YtdjfmcomeaijgaaDoor
open Go.RowKit
set_option linter.unusedVariables false
set_option linter.unusedSimpArgs false

set_option maxHeartbeats 1000000 in
theorem zsummer_ok (b s m k d t m' k' d' t' u q : Int) (w : World) (ht : Tab w) (hr : tErr ⟨b, s, m, k, d, t, m', k', d', t'⟩ u = 0) (hb1 : -720 ≤ b) (hb2 : b ≤ 840) (hq : shiftV ⟨b, s, m, k, d, t, m', k', d', t'⟩ u = q) :
    Calls Tryd.prog 45 #[.agg #[.int .i64 b, .int .i64 s, .int .i64 m, .int .i64 k, .int .i64 d, .int .i64 t, .int .i64 m', .int .i64 k', .int .i64 d', .int .i64 t'], .int .i64 u] w fun e w' => e = .returned (.tuple #[.bool (decide (0 < q)), .int .i64 0]) ∧ Below w.heap.size w w' := by
  obtain ⟨hz, u1, u2⟩ := tErr_0 hr
  have zt := zErr_turns hz
  simp only at zt
  have hA := (Below.refl w.heap.size w).alloc (Nat.le_refl _) (.cells #[.int .i64 b, .int .i64 s, .int .i64 m, .int .i64 k, .int .i64 d, .int .i64 t, .int .i64 m', .int .i64 k', .int .i64 d', .int .i64 t'] 49)
  have kz := BlockIs.new w #[.int .i64 b, .int .i64 s, .int .i64 m, .int .i64 k, .int .i64 d, .int .i64 t, .int .i64 m', .int .i64 k', .int .i64 d', .int .i64 t'] 49
  have ht1 := ht.below hA
  go_enter Tryd.func45, Tryd.ntmps45
  go_wp2_with fail
  refine (ztime_any _ _ _ _ _ _ _ _ _ _ _ 0 _ hr).mono ?_; rintro e w1 ⟨rfl, hb⟩
  have kz1 := kz.kept hb
  have ht2 := ht1.below hb
  have hB := hA.trans (hb.mono hA.size)
  clear hb kz
  have z0 : w1.cell? ⟨w.heap.size, 0, none⟩ = some (.int .i64 b) := kz1.cell rfl
  have z1 : w1.cell? ⟨w.heap.size, 1, none⟩ = some (.int .i64 s) := kz1.cell rfl
  have z2 : w1.cell? ⟨w.heap.size, 2, none⟩ = some (.int .i64 m) := kz1.cell rfl
  have z3 : w1.cell? ⟨w.heap.size, 3, none⟩ = some (.int .i64 k) := kz1.cell rfl
  have z4 : w1.cell? ⟨w.heap.size, 4, none⟩ = some (.int .i64 d) := kz1.cell rfl
  have z5 : w1.cell? ⟨w.heap.size, 5, none⟩ = some (.int .i64 t) := kz1.cell rfl
  have z6 : w1.cell? ⟨w.heap.size, 6, none⟩ = some (.int .i64 m') := kz1.cell rfl
  have z7 : w1.cell? ⟨w.heap.size, 7, none⟩ = some (.int .i64 k') := kz1.cell rfl
  have z8 : w1.cell? ⟨w.heap.size, 8, none⟩ = some (.int .i64 d') := kz1.cell rfl
  have z9 : w1.cell? ⟨w.heap.size, 9, none⟩ = some (.int .i64 t') := kz1.cell rfl
  go_wp2_with fail
  refine (zshift_ok _ _ _ _ _ _ _ _ _ _ _ q _ ht2 ⟨by omega, by omega⟩ hz hb1 hb2 (fun c => (zt c).1) (fun c => (zt c).2) hq).mono ?_; rintro e w2 ⟨rfl, hb⟩
  have hB2 := Lib.hid (hB.trans (hb.mono hB.size))
  clear hb hB kz1
  go_wp2
  go_ret2
  exact ⟨rfl, hB2.out⟩

end Go.Proofs.YtdjfmcomeaijgaaDoor
