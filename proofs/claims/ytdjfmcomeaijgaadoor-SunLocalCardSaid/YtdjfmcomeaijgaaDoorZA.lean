/- zone.Local: the day, and its minute, that clocks tell. -/
import Derived.Test.YtdjfmcomeaijgaaDoorZ9
import Derived.Test.YtdjfmcomeaijgaaDoorS5
namespace Go.Proofs.YtdjfmcomeaijgaaDoor
open Go.RowKit
set_option linter.unusedVariables false
set_option linter.unusedSimpArgs false

set_option maxHeartbeats 1000000 in
theorem zlocal_no (b s m k d t m' k' d' t' u r : Int) (w : World) (hr : tErr ⟨b, s, m, k, d, t, m', k', d', t'⟩ u = r) (h0 : r ≠ 0) :
    Calls Tryd.prog 46 #[.agg #[.int .i64 b, .int .i64 s, .int .i64 m, .int .i64 k, .int .i64 d, .int .i64 t, .int .i64 m', .int .i64 k', .int .i64 d', .int .i64 t'], .int .i64 u] w fun e w' => e = .returned (.tuple #[.int .i64 0, .int .i64 0, .int .i64 r]) ∧ Below w.heap.size w w' := by
  have hA := (Below.refl w.heap.size w).alloc (Nat.le_refl _) (.cells #[.int .i64 b, .int .i64 s, .int .i64 m, .int .i64 k, .int .i64 d, .int .i64 t, .int .i64 m', .int .i64 k', .int .i64 d', .int .i64 t'] 49)
  have hne : (r != 0) = true := by simpa using h0
  go_enter Tryd.func46, Tryd.ntmps46
  go_wp2_with fail
  refine (ztime_any _ _ _ _ _ _ _ _ _ _ _ r _ hr).mono ?_; rintro e w1 ⟨rfl, hb⟩
  have hB := Lib.hid (hA.trans (hb.mono hA.size))
  clear hb
  go_wp2
  go_ret3
  exact ⟨rfl, hB.out⟩

theorem shiftV_cases (z : Zn) (u : Int) : shiftV z u = 0 ∨ (shiftV z u = z.s ∧ z.s ≠ 0) := by
  unfold shiftV
  split
  · exact .inl rfl
  · split
    · exact .inr ⟨rfl, by assumption⟩
    · exact .inl rfl
theorem shiftV_bd {z : Zn} (h : zErr z = 0) (u : Int) : 0 ≤ shiftV z u ∧ shiftV z u ≤ 120 := by
  have b := zErr_sb h
  rcases shiftV_cases z u with c | ⟨c, _⟩ <;> rw [c] <;> omega

set_option maxHeartbeats 1000000 in
theorem zlocal_ok (b s m k d t m' k' d' t' u q r1 r2 : Int) (w : World) (ht : Tab w) (hr : tErr ⟨b, s, m, k, d, t, m', k', d', t'⟩ u = 0) (hq : shiftV ⟨b, s, m, k, d, t, m', k', d', t'⟩ u = q) (hr1 : (u + b + q) / 1440 = r1) (hr2 : (u + b + q) % 1440 = r2) :
    Calls Tryd.prog 46 #[.agg #[.int .i64 b, .int .i64 s, .int .i64 m, .int .i64 k, .int .i64 d, .int .i64 t, .int .i64 m', .int .i64 k', .int .i64 d', .int .i64 t'], .int .i64 u] w fun e w' => e = .returned (.tuple #[.int .i64 r1, .int .i64 r2, .int .i64 0]) ∧ Below w.heap.size w w' := by
  obtain ⟨hz, u1, u2⟩ := tErr_0 hr
  have zt := zErr_turns hz
  obtain ⟨hb1, hb2⟩ := zErr_b hz
  have qb := shiftV_bd hz u
  rw [hq] at qb
  simp only at zt hb1 hb2
  have R1 := Lib.hid hr1
  have R2 := Lib.hid hr2
  clear hr1 hr2
  have hA := (Below.refl w.heap.size w).alloc (Nat.le_refl _) (.cells #[.int .i64 b, .int .i64 s, .int .i64 m, .int .i64 k, .int .i64 d, .int .i64 t, .int .i64 m', .int .i64 k', .int .i64 d', .int .i64 t'] 49)
  have kz := BlockIs.new w #[.int .i64 b, .int .i64 s, .int .i64 m, .int .i64 k, .int .i64 d, .int .i64 t, .int .i64 m', .int .i64 k', .int .i64 d', .int .i64 t'] 49
  have ht1 := ht.below hA
  go_enter Tryd.func46, Tryd.ntmps46
  go_wp2_with fail
  refine (ztime_any _ _ _ _ _ _ _ _ _ _ _ 0 _ hr).mono ?_; rintro e w1 ⟨rfl, hb⟩
  have kz1 := kz.kept hb
  have ht2 := ht1.below hb
  have hB := hA.trans (hb.mono hA.size)
  clear hb kz
  have z0 : w1.cell? ⟨w.heap.size, 0, none⟩ = some (.int .i64 b) := kz1.cell rfl
  have z1 : w1.cell? ⟨w.heap.size, 1, none⟩ = some (.int .i64 s) := kz1.cell rfl
  have z2 : w1.cell? ⟨w.heap.size, 2, none⟩ = some (.int .i64 m) := kz1.cell rfl
  have z3 : w1.cell? ⟨w.heap.size, 3, none⟩ = some (.int .i64 k) := kz1.cell rfl
  have z4 : w1.cell? ⟨w.heap.size, 4, none⟩ = some (.int .i64 d) := kz1.cell rfl
  have z5 : w1.cell? ⟨w.heap.size, 5, none⟩ = some (.int .i64 t) := kz1.cell rfl
  have z6 : w1.cell? ⟨w.heap.size, 6, none⟩ = some (.int .i64 m') := kz1.cell rfl
  have z7 : w1.cell? ⟨w.heap.size, 7, none⟩ = some (.int .i64 k') := kz1.cell rfl
  have z8 : w1.cell? ⟨w.heap.size, 8, none⟩ = some (.int .i64 d') := kz1.cell rfl
  have z9 : w1.cell? ⟨w.heap.size, 9, none⟩ = some (.int .i64 t') := kz1.cell rfl
  have HT := Lib.hid (show ∀ W', Below w1.heap.size w1 W' → Tab W' from fun W' h => ht2.below h)
  have HB := Lib.hid hB
  have hQ := Lib.hid hq
  clear hB ht2 kz1 hA ht1 ht hq
  go_wp2_with fail
  go_region_held3 (fun w' => w'.cell? ⟨w.heap.size, 0, none⟩ = some (.int .i64 b) ∧ w'.cell? ⟨w.heap.size, 1, none⟩ = some (.int .i64 s) ∧ w'.cell? ⟨w.heap.size, 2, none⟩ = some (.int .i64 m) ∧ w'.cell? ⟨w.heap.size, 3, none⟩ = some (.int .i64 k) ∧ w'.cell? ⟨w.heap.size, 4, none⟩ = some (.int .i64 d) ∧ w'.cell? ⟨w.heap.size, 5, none⟩ = some (.int .i64 t) ∧ w'.cell? ⟨w.heap.size, 6, none⟩ = some (.int .i64 m') ∧ w'.cell? ⟨w.heap.size, 7, none⟩ = some (.int .i64 k') ∧ w'.cell? ⟨w.heap.size, 8, none⟩ = some (.int .i64 d') ∧ w'.cell? ⟨w.heap.size, 9, none⟩ = some (.int .i64 t') ∧ w'.cell? ⟨w.heap.size, 0, none⟩ = some (.int .i64 b) ∧ Below w1.heap.size w1 w')
    (first
      | (exact ⟨z0, z1, z2, z3, z4, z5, z6, z7, z8, z9, z0, (Below.refl _ _).drew⟩)
      | assumption
      | (refine keepZ (by assumption) hb3 (Nat.le_refl _))
      | go_keep)
    (first
      | (go_at_call 68; refine (zshift_ok b s m k d t m' k' d' t' u q _ (by exact HT.out _ (belowZ (by assumption))) ⟨by omega, by omega⟩ hz hb1 hb2 (fun c => (zt c).1) (fun c => (zt c).2) hQ.out).mono ?_; rintro e w3 ⟨rfl, hb3⟩))
  have hh : Below w1.heap.size w1 w3 := by exact belowZ (by assumption)
  have hB3 := Lib.hid (HB.out.trans (hh.mono HB.out.size))
  clear hh
  go_wp2
  go_ret3
  exact ⟨by rw [← R1.out, ← R2.out]; rfl, hB3.out⟩

end Go.Proofs.YtdjfmcomeaijgaaDoor
