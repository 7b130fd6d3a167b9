/- The example of chapter 7. -/
import Derived.Test.YtdjfmcomeaijgaaDoorS5
import Derived.Test.YtdjfmcomeaijgaaDoorG4
namespace Go.Proofs.YtdjfmcomeaijgaaDoor
open Go Go.RowKit
set_option linter.unusedVariables false
set_option linter.unusedSimpArgs false

def exSun : Nat → Int := fun i => match i with | 0 => 1000 | 1 => 1050 | 2 => 1100 | 3 => 1150 | 4 => 1180 | 5 => 1200 | 6 => 1170 | 7 => 1130 | 8 => 1080 | 9 => 1030 | 10 => 1000 | _ => 990

set_option maxHeartbeats 2000000 in
theorem awake7 (w : World) (ht : Tab w) : Calls Tryd.prog 35 #[] w fun e w' => e = .returned (.bool true) ∧ Below w.heap.size w w' := by
  have m1 : May 2023 6 16 := by decide +kernel
  have e1 := Lib.hid (show num 2023 6 16 = 738687 by decide +kernel)
  have cs : sunErr exSun = 0 := by decide +kernel
  have hi : SunIn exSun := by decide +kernel
  have hy : SunBy exSun := by decide +kernel
  have e2 := Lib.hid (show sunAt exSun 738687 = 1185 by decide +kernel)
  have e3 : momV ⟨60, 0, 0, 0, 0, 0, 0, 0, 0, 0⟩ exSun 738687 = (738687 * 1440 + 1125, 0) := by decide +kernel
  have hf : ∀ i, i < 12 → I64 (exSun i) := by intro i hi'; have := hi i hi'; unfold I64; omega
  go_enter Tryd.func35, Tryd.ntmps35
  go_wp2_with fail
  have hA := (Below.refl w.heap.size w).alloc (Nat.le_refl _) (.cells (sunArr exSun) 40)
  have ht1 := ht.below hA
  have bS := BlockIs.new w (sunArr exSun) 40
  refine (gday_ok _ _ _ _ ht1 m1).mono ?_; rintro e w1 ⟨rfl, hb1⟩
  rw [e1.out]
  have b1 : BlockIs w1 w.heap.size (sunArr exSun) 40 := bS.kept hb1
  have hB1 := hA.trans (hb1.mono hA.size)
  have ht2 := ht1.below hb1
  clear hb1 hA ht1 bS
  have z0 : w1.cell? ⟨w.heap.size, 0, none⟩ = some (.int .i64 1000) := b1.cell rfl
  have z1 : w1.cell? ⟨w.heap.size, 1, none⟩ = some (.int .i64 1050) := b1.cell rfl
  have z2 : w1.cell? ⟨w.heap.size, 2, none⟩ = some (.int .i64 1100) := b1.cell rfl
  have z3 : w1.cell? ⟨w.heap.size, 3, none⟩ = some (.int .i64 1150) := b1.cell rfl
  have z4 : w1.cell? ⟨w.heap.size, 4, none⟩ = some (.int .i64 1180) := b1.cell rfl
  have z5 : w1.cell? ⟨w.heap.size, 5, none⟩ = some (.int .i64 1200) := b1.cell rfl
  have z6 : w1.cell? ⟨w.heap.size, 6, none⟩ = some (.int .i64 1170) := b1.cell rfl
  have z7 : w1.cell? ⟨w.heap.size, 7, none⟩ = some (.int .i64 1130) := b1.cell rfl
  have z8 : w1.cell? ⟨w.heap.size, 8, none⟩ = some (.int .i64 1080) := b1.cell rfl
  have z9 : w1.cell? ⟨w.heap.size, 9, none⟩ = some (.int .i64 1030) := b1.cell rfl
  have z10 : w1.cell? ⟨w.heap.size, 10, none⟩ = some (.int .i64 1000) := b1.cell rfl
  have z11 : w1.cell? ⟨w.heap.size, 11, none⟩ = some (.int .i64 990) := b1.cell rfl
  go_wp2_with fail
  refine (sat_ok exSun 738687 _ ht2 cs hi hy (by omega) (by omega) hf).mono ?_; rintro e w2 ⟨rfl, hb2⟩
  rw [e2.out]
  have b2 : BlockIs w2 w.heap.size (sunArr exSun) 40 := b1.kept hb2
  have hB2 := hB1.trans (hb2.mono hB1.size)
  have ht3 := ht2.below hb2
  clear hb2 hB1 ht2 b1 z0 z1 z2 z3 z4 z5 z6 z7 z8 z9 z10 z11
  have z0 : w2.cell? ⟨w.heap.size, 0, none⟩ = some (.int .i64 1000) := b2.cell rfl
  have z1 : w2.cell? ⟨w.heap.size, 1, none⟩ = some (.int .i64 1050) := b2.cell rfl
  have z2 : w2.cell? ⟨w.heap.size, 2, none⟩ = some (.int .i64 1100) := b2.cell rfl
  have z3 : w2.cell? ⟨w.heap.size, 3, none⟩ = some (.int .i64 1150) := b2.cell rfl
  have z4 : w2.cell? ⟨w.heap.size, 4, none⟩ = some (.int .i64 1180) := b2.cell rfl
  have z5 : w2.cell? ⟨w.heap.size, 5, none⟩ = some (.int .i64 1200) := b2.cell rfl
  have z6 : w2.cell? ⟨w.heap.size, 6, none⟩ = some (.int .i64 1170) := b2.cell rfl
  have z7 : w2.cell? ⟨w.heap.size, 7, none⟩ = some (.int .i64 1130) := b2.cell rfl
  have z8 : w2.cell? ⟨w.heap.size, 8, none⟩ = some (.int .i64 1080) := b2.cell rfl
  have z9 : w2.cell? ⟨w.heap.size, 9, none⟩ = some (.int .i64 1030) := b2.cell rfl
  have z10 : w2.cell? ⟨w.heap.size, 10, none⟩ = some (.int .i64 1000) := b2.cell rfl
  have z11 : w2.cell? ⟨w.heap.size, 11, none⟩ = some (.int .i64 990) := b2.cell rfl
  go_wp2_with fail
  refine (smoment_any 60 0 0 0 0 0 0 0 0 0 exSun 738687 _ _ _ ht3 hf (by unfold I64; omega) e3).mono ?_; rintro e w3 ⟨rfl, hb3⟩
  have b3 : BlockIs w3 w.heap.size (sunArr exSun) 40 := b2.kept hb3
  have hB3 := hB2.trans (hb3.mono hB2.size)
  clear hb3 hB2 ht3 b2 z0 z1 z2 z3 z4 z5 z6 z7 z8 z9 z10 z11
  have z0 : w3.cell? ⟨w.heap.size, 0, none⟩ = some (.int .i64 1000) := b3.cell rfl
  have z1 : w3.cell? ⟨w.heap.size, 1, none⟩ = some (.int .i64 1050) := b3.cell rfl
  have z2 : w3.cell? ⟨w.heap.size, 2, none⟩ = some (.int .i64 1100) := b3.cell rfl
  have z3 : w3.cell? ⟨w.heap.size, 3, none⟩ = some (.int .i64 1150) := b3.cell rfl
  have z4 : w3.cell? ⟨w.heap.size, 4, none⟩ = some (.int .i64 1180) := b3.cell rfl
  have z5 : w3.cell? ⟨w.heap.size, 5, none⟩ = some (.int .i64 1200) := b3.cell rfl
  have z6 : w3.cell? ⟨w.heap.size, 6, none⟩ = some (.int .i64 1170) := b3.cell rfl
  have z7 : w3.cell? ⟨w.heap.size, 7, none⟩ = some (.int .i64 1130) := b3.cell rfl
  have z8 : w3.cell? ⟨w.heap.size, 8, none⟩ = some (.int .i64 1080) := b3.cell rfl
  have z9 : w3.cell? ⟨w.heap.size, 9, none⟩ = some (.int .i64 1030) := b3.cell rfl
  have z10 : w3.cell? ⟨w.heap.size, 10, none⟩ = some (.int .i64 1000) := b3.cell rfl
  have z11 : w3.cell? ⟨w.heap.size, 11, none⟩ = some (.int .i64 990) := b3.cell rfl
  go_wp2_with fail
  refine (scheck_any exSun 0 _ cs hf).mono ?_; rintro e w4 ⟨rfl, hb4⟩
  have hB4 := Lib.hid (hB3.trans (hb4.mono hB3.size))
  clear hb4 hB3 b3 z0 z1 z2 z3 z4 z5 z6 z7 z8 z9 z10 z11
  go_wp2_with fail
  go_ret
  exact ⟨rfl, hB4.out⟩

end Go.Proofs.YtdjfmcomeaijgaaDoor
