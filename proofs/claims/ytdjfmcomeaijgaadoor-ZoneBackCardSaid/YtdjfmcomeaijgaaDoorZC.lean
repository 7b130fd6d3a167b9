/- zone.Instants: of a zone without a shift. -/
import Derived.Test.YtdjfmcomeaijgaaDoorZB
import Derived.Test.YtdjfmcomeaijgaaDoorS1
namespace Go.Proofs.YtdjfmcomeaijgaaDoor
open Go Go.RowKit
set_option linter.unusedVariables false
set_option linter.unusedSimpArgs false


set_option maxHeartbeats 2000000 in
theorem zinst_plain (b s m k d t m' k' d' t' n u T : Int) (w : World) (ht : Tab w) (hz : zErr ⟨b, s, m, k, d, t, m', k', d', t'⟩ = 0) (hd : DayOk n u) (hT : n * 1440 + u - b = T) (hs : s = 0) (hq2 : shiftV ⟨b, s, m, k, d, t, m', k', d', t'⟩ T = 0) :
    Calls Tryd.prog 50 #[.agg #[.int .i64 b, .int .i64 s, .int .i64 m, .int .i64 k, .int .i64 d, .int .i64 t, .int .i64 m', .int .i64 k', .int .i64 d', .int .i64 t'], .int .i64 n, .int .i64 u] w fun e w' => ∃ out, e = .returned (.tuple #[out, .int .i64 0]) ∧ w'.ownsRow (w.heap.size + 1) 3 1 out 1 [.int .i64 T] ∧ Below w.heap.size w w' := by
  obtain ⟨i0, hi, hz0, hz1, hz2⟩ := info_parts int_info
  have zt := zErr_turns hz
  obtain ⟨hb1, hb2⟩ := zErr_b hz
  have hsb := zErr_sb hz
  simp only at zt hb1 hb2 hsb
  obtain ⟨d1, d2, d3, d4⟩ := hd
  have e1 := Lib.hid (show (decide (401 ≤ n) && decide (n ≤ 3651998)) = true by simp; omega)
  have e2 := Lib.hid (show (decide (0 ≤ u) && decide (u ≤ 1439)) = true by simp; omega)
  have t1 : 576000 ≤ T := by omega
  have t2 : T ≤ 5258879999 := by omega
  have t3 : 560000 ≤ T - s := by omega
  have wT := Lib.hid hT
  have hA := (Below.refl w.heap.size w).alloc (Nat.le_refl _) (.cells #[.int .i64 b, .int .i64 s, .int .i64 m, .int .i64 k, .int .i64 d, .int .i64 t, .int .i64 m', .int .i64 k', .int .i64 d', .int .i64 t'] 49)
  have kz := BlockIs.new w #[.int .i64 b, .int .i64 s, .int .i64 m, .int .i64 k, .int .i64 d, .int .i64 t, .int .i64 m', .int .i64 k', .int .i64 d', .int .i64 t'] 49
  have ht1 := ht.below hA
  have hs0 : decide (0 < s) = false := by simp; omega
  clear hs
  go_enter Tryd.func50, Tryd.ntmps50
  go_wp2_with fail
  refine (zcheck_any _ _ _ _ _ _ _ _ _ _ 0 _ hz).mono ?_; rintro e w1 ⟨rfl, hb⟩
  have kz1 := kz.kept hb
  have ht2 := ht1.below hb
  have hB := hA.trans (hb.mono hA.size)
  have hlt := kz1.lt
  clear hb kz hA ht1
  have z0 : w1.cell? ⟨w.heap.size, 0, none⟩ = some (.int .i64 b) := kz1.cell rfl
  have z1 : w1.cell? ⟨w.heap.size, 1, none⟩ = some (.int .i64 s) := kz1.cell rfl
  have z2 : w1.cell? ⟨w.heap.size, 2, none⟩ = some (.int .i64 m) := kz1.cell rfl
  have z3 : w1.cell? ⟨w.heap.size, 3, none⟩ = some (.int .i64 k) := kz1.cell rfl
  have z4 : w1.cell? ⟨w.heap.size, 4, none⟩ = some (.int .i64 d) := kz1.cell rfl
  have z5 : w1.cell? ⟨w.heap.size, 5, none⟩ = some (.int .i64 t) := kz1.cell rfl
  have z6 : w1.cell? ⟨w.heap.size, 6, none⟩ = some (.int .i64 m') := kz1.cell rfl
  have z7 : w1.cell? ⟨w.heap.size, 7, none⟩ = some (.int .i64 k') := kz1.cell rfl
  have z8 : w1.cell? ⟨w.heap.size, 8, none⟩ = some (.int .i64 d') := kz1.cell rfl
  have z9 : w1.cell? ⟨w.heap.size, 9, none⟩ = some (.int .i64 t') := kz1.cell rfl
  go_wp2_with fail
  refine (zwithin_any _ _ _ _).mono ?_; rintro e w' ⟨rfl, rfl⟩
  rw [e1.out]
  go_wp2_with fail
  refine (zwithin_any _ _ _ _).mono ?_; rintro e w' ⟨rfl, rfl⟩
  rw [e2.out]
  go_wp2_with fail
  refine (zshift_ok b s m k d t m' k' d' t' _ _ _ ht2 (by unfold Tm; first | omega | (rw [hT]; omega)) hz hb1 hb2 (fun c => (zt c).1) (fun c => (zt c).2) hq2).mono ?_; rintro e w4 ⟨rfl, hb⟩
  have kz4 := kz1.kept hb
  have hB4 := hB.trans (hb.mono hB.size)
  have hlt4 := kz4.lt
  clear hb
  go_wp2_with (first | (at_builtin; refine wpList_append_lies _ rfl (.tmp 54) (.tmp 56) 60 rfl (w.heap.size + 1) 3 i0 (.int .i64 0) 1 8 Tryd.underlying60 hi hz0 hz1 hz2 rfl (by decide) _ 0 _ rfl (World.ownsRow_nil _ _ _ _) ⟨w4.heap.size, 0, none⟩ 1 1 [.int .i64 T] rfl rfl (cell_one_new _ _ _) (by intro u hu; simp at hu; subst hu; rfl) (by omega) (by unfold maxLen; omega) (by omega) (by simp; omega) _ rfl ?_; intro g2 capg2 w5 k2 k3 k4 k5))
  go_ret2
  refine ⟨_, rfl, by simpa using k2, ?_⟩
  exact (hB4.alloc hB4.size _).grown k3 (by simp; omega) (fun k e => by cases e)

end Go.Proofs.YtdjfmcomeaijgaaDoor
