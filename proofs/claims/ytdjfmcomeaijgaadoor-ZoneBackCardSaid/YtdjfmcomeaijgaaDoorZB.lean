/- zone.Instants: the instants at which clocks tell a minute. -/
import Derived.Test.YtdjfmcomeaijgaaDoorZA
import Derived.Test.YtdjfmcomeaijgaaDoorS1
namespace Go.Proofs.YtdjfmcomeaijgaaDoor
open Go Go.RowKit
set_option linter.unusedVariables false
set_option linter.unusedSimpArgs false

/-- May a day and a minute be told back? -/
def DayOk (n u : Int) : Prop := 401 ≤ n ∧ n ≤ 3651998 ∧ 0 ≤ u ∧ u ≤ 1439
instance (n u : Int) : Decidable (DayOk n u) := by unfold DayOk; exact inferInstance
theorem grown_none {w w' : World} (h : Below w.heap.size w w') : w.grownBy w' none := ⟨h.os, h.tape, h.output, h.size, fun k hk _ => h.block k hk⟩

set_option maxHeartbeats 1000000 in
theorem zinst_zone (b s m k d t m' k' d' t' n u r : Int) (w : World) (hr : zErr ⟨b, s, m, k, d, t, m', k', d', t'⟩ = r) (h0 : r ≠ 0) :
    Calls Tryd.prog 50 #[.agg #[.int .i64 b, .int .i64 s, .int .i64 m, .int .i64 k, .int .i64 d, .int .i64 t, .int .i64 m', .int .i64 k', .int .i64 d', .int .i64 t'], .int .i64 n, .int .i64 u] w fun e w' => e = .returned (.tuple #[.slice none 0 0, .int .i64 r]) ∧ Below w.heap.size w w' := by
  have hA := (Below.refl w.heap.size w).alloc (Nat.le_refl _) (.cells #[.int .i64 b, .int .i64 s, .int .i64 m, .int .i64 k, .int .i64 d, .int .i64 t, .int .i64 m', .int .i64 k', .int .i64 d', .int .i64 t'] 49)
  have hne : (r != 0) = true := by simpa using h0
  go_enter Tryd.func50, Tryd.ntmps50
  go_wp2_with fail
  refine (zcheck_any _ _ _ _ _ _ _ _ _ _ r _ hr).mono ?_; rintro e w1 ⟨rfl, hb⟩
  have hB := Lib.hid (hA.trans (hb.mono hA.size))
  clear hb
  go_wp2
  go_ret2
  exact ⟨rfl, hB.out⟩

set_option maxHeartbeats 1000000 in
theorem zinst_day (b s m k d t m' k' d' t' n u : Int) (w : World) (hr : zErr ⟨b, s, m, k, d, t, m', k', d', t'⟩ = 0) (h0 : ¬ DayOk n u) :
    Calls Tryd.prog 50 #[.agg #[.int .i64 b, .int .i64 s, .int .i64 m, .int .i64 k, .int .i64 d, .int .i64 t, .int .i64 m', .int .i64 k', .int .i64 d', .int .i64 t'], .int .i64 n, .int .i64 u] w fun e w' => e = .returned (.tuple #[.slice none 0 0, .int .i64 64]) ∧ Below w.heap.size w w' := by
  have hA := (Below.refl w.heap.size w).alloc (Nat.le_refl _) (.cells #[.int .i64 b, .int .i64 s, .int .i64 m, .int .i64 k, .int .i64 d, .int .i64 t, .int .i64 m', .int .i64 k', .int .i64 d', .int .i64 t'] 49)
  unfold DayOk at h0
  by_cases c : 401 ≤ n ∧ n ≤ 3651998
  · have e1 := Lib.hid (show (decide (401 ≤ n) && decide (n ≤ 3651998)) = true by simp; omega)
    have e2 := Lib.hid (show (decide (0 ≤ u) && decide (u ≤ 1439)) = false by simp; omega)
    clear c h0
    go_enter Tryd.func50, Tryd.ntmps50
    go_wp2_with fail
    refine (zcheck_any _ _ _ _ _ _ _ _ _ _ 0 _ hr).mono ?_; rintro e w1 ⟨rfl, hb⟩
    have hB := Lib.hid (hA.trans (hb.mono hA.size))
    clear hb
    go_wp2_with fail
    refine (zwithin_any _ _ _ _).mono ?_; rintro e w' ⟨rfl, rfl⟩
    rw [e1.out]
    go_wp2_with fail
    refine (zwithin_any _ _ _ _).mono ?_; rintro e w' ⟨rfl, rfl⟩
    rw [e2.out]
    go_wp2
    go_ret2
    exact ⟨rfl, hB.out⟩
  · have e1 := Lib.hid (show (decide (401 ≤ n) && decide (n ≤ 3651998)) = false by simp; omega)
    clear c h0
    go_enter Tryd.func50, Tryd.ntmps50
    go_wp2_with fail
    refine (zcheck_any _ _ _ _ _ _ _ _ _ _ 0 _ hr).mono ?_; rintro e w1 ⟨rfl, hb⟩
    have hB := Lib.hid (hA.trans (hb.mono hA.size))
    clear hb
    go_wp2_with fail
    refine (zwithin_any _ _ _ _).mono ?_; rintro e w' ⟨rfl, rfl⟩
    rw [e1.out]
    go_wp2
    go_ret2
    exact ⟨rfl, hB.out⟩

theorem grown_to_below {W W' : World} {row : Option Nat} (h : W.grownBy W' row) (hr : row = none) : Below W.heap.size W W' :=
  (Below.refl _ _).grown h (Nat.le_refl _) (fun k e => by subst hr; cases e)

theorem zone_cells {W : World} {p : Nat} {b s m k d t m' k' d' t' : Int} {y : TypeId} (h : BlockIs W p #[.int .i64 b, .int .i64 s, .int .i64 m, .int .i64 k, .int .i64 d, .int .i64 t, .int .i64 m', .int .i64 k', .int .i64 d', .int .i64 t'] y) : W.cell? ⟨p, 0, none⟩ = some (.int .i64 b) ∧ W.cell? ⟨p, 1, none⟩ = some (.int .i64 s) ∧ W.cell? ⟨p, 2, none⟩ = some (.int .i64 m) ∧ W.cell? ⟨p, 3, none⟩ = some (.int .i64 k) ∧ W.cell? ⟨p, 4, none⟩ = some (.int .i64 d) ∧ W.cell? ⟨p, 5, none⟩ = some (.int .i64 t) ∧ W.cell? ⟨p, 6, none⟩ = some (.int .i64 m') ∧ W.cell? ⟨p, 7, none⟩ = some (.int .i64 k') ∧ W.cell? ⟨p, 8, none⟩ = some (.int .i64 d') ∧ W.cell? ⟨p, 9, none⟩ = some (.int .i64 t') :=
  ⟨h.cell rfl, h.cell rfl, h.cell rfl, h.cell rfl, h.cell rfl, h.cell rfl, h.cell rfl, h.cell rfl, h.cell rfl, h.cell rfl⟩

set_option maxHeartbeats 2000000 in
theorem zinst_two (b s m k d t m' k' d' t' n u T : Int) (w : World) (ht : Tab w) (hz : zErr ⟨b, s, m, k, d, t, m', k', d', t'⟩ = 0) (hd : DayOk n u) (hT : n * 1440 + u - b = T) (hs : 0 < s) (hq1 : shiftV ⟨b, s, m, k, d, t, m', k', d', t'⟩ (T - s) = s) (hq2 : shiftV ⟨b, s, m, k, d, t, m', k', d', t'⟩ T = 0) :
    Calls Tryd.prog 50 #[.agg #[.int .i64 b, .int .i64 s, .int .i64 m, .int .i64 k, .int .i64 d, .int .i64 t, .int .i64 m', .int .i64 k', .int .i64 d', .int .i64 t'], .int .i64 n, .int .i64 u] w fun e w' => ∃ out, e = .returned (.tuple #[out, .int .i64 0]) ∧ w'.ownsRow (w.heap.size + 1) 3 1 out 2 [.int .i64 (T - s), .int .i64 T] ∧ Below w.heap.size w w' := by
  obtain ⟨i0, hi, hz0, hz1, hz2⟩ := info_parts int_info
  have zt := zErr_turns hz
  obtain ⟨hb1, hb2⟩ := zErr_b hz
  have hsb := zErr_sb hz
  simp only at zt hb1 hb2 hsb
  obtain ⟨d1, d2, d3, d4⟩ := hd
  have e1 := Lib.hid (show (decide (401 ≤ n) && decide (n ≤ 3651998)) = true by simp; omega)
  have e2 := Lib.hid (show (decide (0 ≤ u) && decide (u ≤ 1439)) = true by simp; omega)
  have t1 : 576000 ≤ T := by omega
  have t2 : T ≤ 5258879999 := by omega
  have t3 : 560000 ≤ T - s := by omega
  have wT := Lib.hid hT
  have hA := (Below.refl w.heap.size w).alloc (Nat.le_refl _) (.cells #[.int .i64 b, .int .i64 s, .int .i64 m, .int .i64 k, .int .i64 d, .int .i64 t, .int .i64 m', .int .i64 k', .int .i64 d', .int .i64 t'] 49)
  have kz := BlockIs.new w #[.int .i64 b, .int .i64 s, .int .i64 m, .int .i64 k, .int .i64 d, .int .i64 t, .int .i64 m', .int .i64 k', .int .i64 d', .int .i64 t'] 49
  have ht1 := ht.below hA
  go_enter Tryd.func50, Tryd.ntmps50
  go_wp2_with fail
  refine (zcheck_any _ _ _ _ _ _ _ _ _ _ 0 _ hz).mono ?_; rintro e w1 ⟨rfl, hb⟩
  have kz1 := kz.kept hb
  have ht2 := ht1.below hb
  have hB := hA.trans (hb.mono hA.size)
  have hlt := kz1.lt
  clear hb kz hA ht1
  have z0 : w1.cell? ⟨w.heap.size, 0, none⟩ = some (.int .i64 b) := kz1.cell rfl
  have z1 : w1.cell? ⟨w.heap.size, 1, none⟩ = some (.int .i64 s) := kz1.cell rfl
  have z2 : w1.cell? ⟨w.heap.size, 2, none⟩ = some (.int .i64 m) := kz1.cell rfl
  have z3 : w1.cell? ⟨w.heap.size, 3, none⟩ = some (.int .i64 k) := kz1.cell rfl
  have z4 : w1.cell? ⟨w.heap.size, 4, none⟩ = some (.int .i64 d) := kz1.cell rfl
  have z5 : w1.cell? ⟨w.heap.size, 5, none⟩ = some (.int .i64 t) := kz1.cell rfl
  have z6 : w1.cell? ⟨w.heap.size, 6, none⟩ = some (.int .i64 m') := kz1.cell rfl
  have z7 : w1.cell? ⟨w.heap.size, 7, none⟩ = some (.int .i64 k') := kz1.cell rfl
  have z8 : w1.cell? ⟨w.heap.size, 8, none⟩ = some (.int .i64 d') := kz1.cell rfl
  have z9 : w1.cell? ⟨w.heap.size, 9, none⟩ = some (.int .i64 t') := kz1.cell rfl
  go_wp2_with fail
  refine (zwithin_any _ _ _ _).mono ?_; rintro e w' ⟨rfl, rfl⟩
  rw [e1.out]
  go_wp2_with fail
  refine (zwithin_any _ _ _ _).mono ?_; rintro e w' ⟨rfl, rfl⟩
  rw [e2.out]
  go_wp2_with fail
  refine (zshift_ok b s m k d t m' k' d' t' _ _ _ ht2 (by unfold Tm; first | omega | (rw [hT]; omega)) hz hb1 hb2 (fun c => (zt c).1) (fun c => (zt c).2) hq1).mono ?_; rintro e w2 ⟨rfl, hb⟩
  have kz2 := kz1.kept hb
  have ht3 := ht2.below hb
  have hB2 := hB.trans (hb.mono hB.size)
  have hlt2 := kz2.lt
  clear hb z0 z1 z2 z3 z4 z5 z6 z7 z8 z9
  have z0 : w2.cell? ⟨w.heap.size, 0, none⟩ = some (.int .i64 b) := kz2.cell rfl
  have z1 : w2.cell? ⟨w.heap.size, 1, none⟩ = some (.int .i64 s) := kz2.cell rfl
  have z2 : w2.cell? ⟨w.heap.size, 2, none⟩ = some (.int .i64 m) := kz2.cell rfl
  have z3 : w2.cell? ⟨w.heap.size, 3, none⟩ = some (.int .i64 k) := kz2.cell rfl
  have z4 : w2.cell? ⟨w.heap.size, 4, none⟩ = some (.int .i64 d) := kz2.cell rfl
  have z5 : w2.cell? ⟨w.heap.size, 5, none⟩ = some (.int .i64 t) := kz2.cell rfl
  have z6 : w2.cell? ⟨w.heap.size, 6, none⟩ = some (.int .i64 m') := kz2.cell rfl
  have z7 : w2.cell? ⟨w.heap.size, 7, none⟩ = some (.int .i64 k') := kz2.cell rfl
  have z8 : w2.cell? ⟨w.heap.size, 8, none⟩ = some (.int .i64 d') := kz2.cell rfl
  have z9 : w2.cell? ⟨w.heap.size, 9, none⟩ = some (.int .i64 t') := kz2.cell rfl
  have AP : ∀ {W2 : World}, (w2.alloc (.cells #[.int .i64 (T - s)] 3)).grownBy W2 (Value.ownBlock (.slice none 0 0)) → BlockIs W2 w.heap.size #[.int .i64 b, .int .i64 s, .int .i64 m, .int .i64 k, .int .i64 d, .int .i64 t, .int .i64 m', .int .i64 k', .int .i64 d', .int .i64 t'] 49 ∧ Tab W2 ∧ Below w.heap.size w W2 := fun h => by
    have x := grown_to_below h rfl
    have y := hB2.alloc hB2.size (.cells #[.int .i64 (T - s)] 3)
    exact ⟨(kz2.alloc _).kept x, (ht3.alloc _).below x, y.trans (x.mono y.size)⟩
  go_wp2_with (first | (at_builtin; refine wpList_append_lies _ rfl (.tmp 43) (.tmp 48) 60 rfl (w.heap.size + 1) 3 i0 (.int .i64 0) 1 8 Tryd.underlying60 hi hz0 hz1 hz2 rfl (by decide) _ 0 _ rfl (World.ownsRow_nil _ _ _ _) ⟨w2.heap.size, 0, none⟩ 1 1 [.int .i64 (T - s)] rfl rfl (cell_one_new _ _ _) (by intro u hu; simp at hu; subst hu; rfl) (by omega) (by unfold maxLen; omega) (by omega) (by simp; omega) _ rfl ?_; intro g capg w3 h2 h3 h4 h5; obtain ⟨kz3, ht4, hB3⟩ := AP h3; have hlt3 := kz3.lt; clear z0 z1 z2 z3 z4 z5 z6 z7 z8 z9; (have ⟨z0, z1, z2, z3, z4, z5, z6, z7, z8, z9⟩ := zone_cells kz3)))
  refine (zshift_ok b s m k d t m' k' d' t' _ _ _ ht4 (by unfold Tm; first | omega | (rw [hT]; omega)) hz hb1 hb2 (fun c => (zt c).1) (fun c => (zt c).2) hq2).mono ?_; rintro e w4 ⟨rfl, hb⟩
  have kz4 := kz3.kept hb
  have hB4 := hB3.trans (hb.mono hB3.size)
  have hlt4 := kz4.lt
  have h2' := h2.kept (grown_none hb) (.inr (by simp [Value.ownBlock]))
  clear hb
  go_wp2_with (first | (at_builtin; refine wpList_append_lies _ rfl (.tmp 54) (.tmp 56) 60 rfl (w.heap.size + 1) 3 i0 (.int .i64 0) 1 8 Tryd.underlying60 hi hz0 hz1 hz2 rfl (by decide) _ 1 _ rfl (h2'.alloc _) ⟨w4.heap.size, 0, none⟩ 1 1 [.int .i64 T] rfl rfl (cell_one_new _ _ _) (by intro u hu; simp at hu; subst hu; rfl) (by omega) (by unfold maxLen; omega) (by omega) (by simp; omega) _ rfl ?_; intro g2 capg2 w5 k2 k3 k4 k5))
  go_ret2
  refine ⟨_, rfl, by simpa using k2, ?_⟩
  exact (hB4.alloc hB4.size _).grown k3 (by simp; omega) (fun k e => by have := (h2'.lt k e).1; omega)

set_option maxHeartbeats 2000000 in
theorem zinst_early (b s m k d t m' k' d' t' n u T : Int) (w : World) (ht : Tab w) (hz : zErr ⟨b, s, m, k, d, t, m', k', d', t'⟩ = 0) (hd : DayOk n u) (hT : n * 1440 + u - b = T) (hs : 0 < s) (hq1 : shiftV ⟨b, s, m, k, d, t, m', k', d', t'⟩ (T - s) = s) (hq2 : shiftV ⟨b, s, m, k, d, t, m', k', d', t'⟩ T = s) :
    Calls Tryd.prog 50 #[.agg #[.int .i64 b, .int .i64 s, .int .i64 m, .int .i64 k, .int .i64 d, .int .i64 t, .int .i64 m', .int .i64 k', .int .i64 d', .int .i64 t'], .int .i64 n, .int .i64 u] w fun e w' => ∃ out, e = .returned (.tuple #[out, .int .i64 0]) ∧ w'.ownsRow (w.heap.size + 1) 3 1 out 1 [.int .i64 (T - s)] ∧ Below w.heap.size w w' := by
  obtain ⟨i0, hi, hz0, hz1, hz2⟩ := info_parts int_info
  have zt := zErr_turns hz
  obtain ⟨hb1, hb2⟩ := zErr_b hz
  have hsb := zErr_sb hz
  simp only at zt hb1 hb2 hsb
  obtain ⟨d1, d2, d3, d4⟩ := hd
  have e1 := Lib.hid (show (decide (401 ≤ n) && decide (n ≤ 3651998)) = true by simp; omega)
  have e2 := Lib.hid (show (decide (0 ≤ u) && decide (u ≤ 1439)) = true by simp; omega)
  have t1 : 576000 ≤ T := by omega
  have t2 : T ≤ 5258879999 := by omega
  have t3 : 560000 ≤ T - s := by omega
  have wT := Lib.hid hT
  have hA := (Below.refl w.heap.size w).alloc (Nat.le_refl _) (.cells #[.int .i64 b, .int .i64 s, .int .i64 m, .int .i64 k, .int .i64 d, .int .i64 t, .int .i64 m', .int .i64 k', .int .i64 d', .int .i64 t'] 49)
  have kz := BlockIs.new w #[.int .i64 b, .int .i64 s, .int .i64 m, .int .i64 k, .int .i64 d, .int .i64 t, .int .i64 m', .int .i64 k', .int .i64 d', .int .i64 t'] 49
  have ht1 := ht.below hA
  go_enter Tryd.func50, Tryd.ntmps50
  go_wp2_with fail
  refine (zcheck_any _ _ _ _ _ _ _ _ _ _ 0 _ hz).mono ?_; rintro e w1 ⟨rfl, hb⟩
  have kz1 := kz.kept hb
  have ht2 := ht1.below hb
  have hB := hA.trans (hb.mono hA.size)
  have hlt := kz1.lt
  clear hb kz hA ht1
  have z0 : w1.cell? ⟨w.heap.size, 0, none⟩ = some (.int .i64 b) := kz1.cell rfl
  have z1 : w1.cell? ⟨w.heap.size, 1, none⟩ = some (.int .i64 s) := kz1.cell rfl
  have z2 : w1.cell? ⟨w.heap.size, 2, none⟩ = some (.int .i64 m) := kz1.cell rfl
  have z3 : w1.cell? ⟨w.heap.size, 3, none⟩ = some (.int .i64 k) := kz1.cell rfl
  have z4 : w1.cell? ⟨w.heap.size, 4, none⟩ = some (.int .i64 d) := kz1.cell rfl
  have z5 : w1.cell? ⟨w.heap.size, 5, none⟩ = some (.int .i64 t) := kz1.cell rfl
  have z6 : w1.cell? ⟨w.heap.size, 6, none⟩ = some (.int .i64 m') := kz1.cell rfl
  have z7 : w1.cell? ⟨w.heap.size, 7, none⟩ = some (.int .i64 k') := kz1.cell rfl
  have z8 : w1.cell? ⟨w.heap.size, 8, none⟩ = some (.int .i64 d') := kz1.cell rfl
  have z9 : w1.cell? ⟨w.heap.size, 9, none⟩ = some (.int .i64 t') := kz1.cell rfl
  go_wp2_with fail
  refine (zwithin_any _ _ _ _).mono ?_; rintro e w' ⟨rfl, rfl⟩
  rw [e1.out]
  go_wp2_with fail
  refine (zwithin_any _ _ _ _).mono ?_; rintro e w' ⟨rfl, rfl⟩
  rw [e2.out]
  go_wp2_with fail
  refine (zshift_ok b s m k d t m' k' d' t' _ _ _ ht2 (by unfold Tm; first | omega | (rw [hT]; omega)) hz hb1 hb2 (fun c => (zt c).1) (fun c => (zt c).2) hq1).mono ?_; rintro e w2 ⟨rfl, hb⟩
  have kz2 := kz1.kept hb
  have ht3 := ht2.below hb
  have hB2 := hB.trans (hb.mono hB.size)
  have hlt2 := kz2.lt
  clear hb z0 z1 z2 z3 z4 z5 z6 z7 z8 z9
  have z0 : w2.cell? ⟨w.heap.size, 0, none⟩ = some (.int .i64 b) := kz2.cell rfl
  have z1 : w2.cell? ⟨w.heap.size, 1, none⟩ = some (.int .i64 s) := kz2.cell rfl
  have z2 : w2.cell? ⟨w.heap.size, 2, none⟩ = some (.int .i64 m) := kz2.cell rfl
  have z3 : w2.cell? ⟨w.heap.size, 3, none⟩ = some (.int .i64 k) := kz2.cell rfl
  have z4 : w2.cell? ⟨w.heap.size, 4, none⟩ = some (.int .i64 d) := kz2.cell rfl
  have z5 : w2.cell? ⟨w.heap.size, 5, none⟩ = some (.int .i64 t) := kz2.cell rfl
  have z6 : w2.cell? ⟨w.heap.size, 6, none⟩ = some (.int .i64 m') := kz2.cell rfl
  have z7 : w2.cell? ⟨w.heap.size, 7, none⟩ = some (.int .i64 k') := kz2.cell rfl
  have z8 : w2.cell? ⟨w.heap.size, 8, none⟩ = some (.int .i64 d') := kz2.cell rfl
  have z9 : w2.cell? ⟨w.heap.size, 9, none⟩ = some (.int .i64 t') := kz2.cell rfl
  have AP : ∀ {W2 : World}, (w2.alloc (.cells #[.int .i64 (T - s)] 3)).grownBy W2 (Value.ownBlock (.slice none 0 0)) → BlockIs W2 w.heap.size #[.int .i64 b, .int .i64 s, .int .i64 m, .int .i64 k, .int .i64 d, .int .i64 t, .int .i64 m', .int .i64 k', .int .i64 d', .int .i64 t'] 49 ∧ Tab W2 ∧ Below w.heap.size w W2 := fun h => by
    have x := grown_to_below h rfl
    have y := hB2.alloc hB2.size (.cells #[.int .i64 (T - s)] 3)
    exact ⟨(kz2.alloc _).kept x, (ht3.alloc _).below x, y.trans (x.mono y.size)⟩
  go_wp2_with (first | (at_builtin; refine wpList_append_lies _ rfl (.tmp 43) (.tmp 48) 60 rfl (w.heap.size + 1) 3 i0 (.int .i64 0) 1 8 Tryd.underlying60 hi hz0 hz1 hz2 rfl (by decide) _ 0 _ rfl (World.ownsRow_nil _ _ _ _) ⟨w2.heap.size, 0, none⟩ 1 1 [.int .i64 (T - s)] rfl rfl (cell_one_new _ _ _) (by intro u hu; simp at hu; subst hu; rfl) (by omega) (by unfold maxLen; omega) (by omega) (by simp; omega) _ rfl ?_; intro g capg w3 h2 h3 h4 h5; obtain ⟨kz3, ht4, hB3⟩ := AP h3; have hlt3 := kz3.lt; clear z0 z1 z2 z3 z4 z5 z6 z7 z8 z9; (have ⟨z0, z1, z2, z3, z4, z5, z6, z7, z8, z9⟩ := zone_cells kz3)))
  refine (zshift_ok b s m k d t m' k' d' t' _ _ _ ht4 (by unfold Tm; first | omega | (rw [hT]; omega)) hz hb1 hb2 (fun c => (zt c).1) (fun c => (zt c).2) hq2).mono ?_; rintro e w4 ⟨rfl, hb⟩
  have kz4 := kz3.kept hb
  have hB4 := hB3.trans (hb.mono hB3.size)
  have hlt4 := kz4.lt
  have h2' := h2.kept (grown_none hb) (.inr (by simp [Value.ownBlock]))
  clear hb
  go_wp2
  go_ret2
  exact ⟨_, rfl, h2', hB4⟩

set_option maxHeartbeats 2000000 in
theorem zinst_none (b s m k d t m' k' d' t' n u T : Int) (w : World) (ht : Tab w) (hz : zErr ⟨b, s, m, k, d, t, m', k', d', t'⟩ = 0) (hd : DayOk n u) (hT : n * 1440 + u - b = T) (hs : 0 < s) (hq1 : shiftV ⟨b, s, m, k, d, t, m', k', d', t'⟩ (T - s) = 0) (hq2 : shiftV ⟨b, s, m, k, d, t, m', k', d', t'⟩ T = s) :
    Calls Tryd.prog 50 #[.agg #[.int .i64 b, .int .i64 s, .int .i64 m, .int .i64 k, .int .i64 d, .int .i64 t, .int .i64 m', .int .i64 k', .int .i64 d', .int .i64 t'], .int .i64 n, .int .i64 u] w fun e w' => ∃ out, e = .returned (.tuple #[out, .int .i64 0]) ∧ w'.ownsRow (w.heap.size + 1) 3 1 out 0 [] ∧ Below w.heap.size w w' := by
  obtain ⟨i0, hi, hz0, hz1, hz2⟩ := info_parts int_info
  have zt := zErr_turns hz
  obtain ⟨hb1, hb2⟩ := zErr_b hz
  have hsb := zErr_sb hz
  simp only at zt hb1 hb2 hsb
  obtain ⟨d1, d2, d3, d4⟩ := hd
  have e1 := Lib.hid (show (decide (401 ≤ n) && decide (n ≤ 3651998)) = true by simp; omega)
  have e2 := Lib.hid (show (decide (0 ≤ u) && decide (u ≤ 1439)) = true by simp; omega)
  have t1 : 576000 ≤ T := by omega
  have t2 : T ≤ 5258879999 := by omega
  have t3 : 560000 ≤ T - s := by omega
  have wT := Lib.hid hT
  have hA := (Below.refl w.heap.size w).alloc (Nat.le_refl _) (.cells #[.int .i64 b, .int .i64 s, .int .i64 m, .int .i64 k, .int .i64 d, .int .i64 t, .int .i64 m', .int .i64 k', .int .i64 d', .int .i64 t'] 49)
  have kz := BlockIs.new w #[.int .i64 b, .int .i64 s, .int .i64 m, .int .i64 k, .int .i64 d, .int .i64 t, .int .i64 m', .int .i64 k', .int .i64 d', .int .i64 t'] 49
  have ht1 := ht.below hA
  go_enter Tryd.func50, Tryd.ntmps50
  go_wp2_with fail
  refine (zcheck_any _ _ _ _ _ _ _ _ _ _ 0 _ hz).mono ?_; rintro e w1 ⟨rfl, hb⟩
  have kz1 := kz.kept hb
  have ht2 := ht1.below hb
  have hB := hA.trans (hb.mono hA.size)
  have hlt := kz1.lt
  clear hb kz hA ht1
  have z0 : w1.cell? ⟨w.heap.size, 0, none⟩ = some (.int .i64 b) := kz1.cell rfl
  have z1 : w1.cell? ⟨w.heap.size, 1, none⟩ = some (.int .i64 s) := kz1.cell rfl
  have z2 : w1.cell? ⟨w.heap.size, 2, none⟩ = some (.int .i64 m) := kz1.cell rfl
  have z3 : w1.cell? ⟨w.heap.size, 3, none⟩ = some (.int .i64 k) := kz1.cell rfl
  have z4 : w1.cell? ⟨w.heap.size, 4, none⟩ = some (.int .i64 d) := kz1.cell rfl
  have z5 : w1.cell? ⟨w.heap.size, 5, none⟩ = some (.int .i64 t) := kz1.cell rfl
  have z6 : w1.cell? ⟨w.heap.size, 6, none⟩ = some (.int .i64 m') := kz1.cell rfl
  have z7 : w1.cell? ⟨w.heap.size, 7, none⟩ = some (.int .i64 k') := kz1.cell rfl
  have z8 : w1.cell? ⟨w.heap.size, 8, none⟩ = some (.int .i64 d') := kz1.cell rfl
  have z9 : w1.cell? ⟨w.heap.size, 9, none⟩ = some (.int .i64 t') := kz1.cell rfl
  go_wp2_with fail
  refine (zwithin_any _ _ _ _).mono ?_; rintro e w' ⟨rfl, rfl⟩
  rw [e1.out]
  go_wp2_with fail
  refine (zwithin_any _ _ _ _).mono ?_; rintro e w' ⟨rfl, rfl⟩
  rw [e2.out]
  go_wp2_with fail
  refine (zshift_ok b s m k d t m' k' d' t' _ _ _ ht2 (by unfold Tm; first | omega | (rw [hT]; omega)) hz hb1 hb2 (fun c => (zt c).1) (fun c => (zt c).2) hq1).mono ?_; rintro e w2 ⟨rfl, hb⟩
  have kz2 := kz1.kept hb
  have ht3 := ht2.below hb
  have hB2 := hB.trans (hb.mono hB.size)
  have hlt2 := kz2.lt
  clear hb z0 z1 z2 z3 z4 z5 z6 z7 z8 z9
  have z0 : w2.cell? ⟨w.heap.size, 0, none⟩ = some (.int .i64 b) := kz2.cell rfl
  have z1 : w2.cell? ⟨w.heap.size, 1, none⟩ = some (.int .i64 s) := kz2.cell rfl
  have z2 : w2.cell? ⟨w.heap.size, 2, none⟩ = some (.int .i64 m) := kz2.cell rfl
  have z3 : w2.cell? ⟨w.heap.size, 3, none⟩ = some (.int .i64 k) := kz2.cell rfl
  have z4 : w2.cell? ⟨w.heap.size, 4, none⟩ = some (.int .i64 d) := kz2.cell rfl
  have z5 : w2.cell? ⟨w.heap.size, 5, none⟩ = some (.int .i64 t) := kz2.cell rfl
  have z6 : w2.cell? ⟨w.heap.size, 6, none⟩ = some (.int .i64 m') := kz2.cell rfl
  have z7 : w2.cell? ⟨w.heap.size, 7, none⟩ = some (.int .i64 k') := kz2.cell rfl
  have z8 : w2.cell? ⟨w.heap.size, 8, none⟩ = some (.int .i64 d') := kz2.cell rfl
  have z9 : w2.cell? ⟨w.heap.size, 9, none⟩ = some (.int .i64 t') := kz2.cell rfl
  go_wp2_with fail
  refine (zshift_ok b s m k d t m' k' d' t' _ _ _ ht3 (by unfold Tm; first | omega | (rw [hT]; omega)) hz hb1 hb2 (fun c => (zt c).1) (fun c => (zt c).2) hq2).mono ?_; rintro e w4 ⟨rfl, hb⟩
  have kz4 := kz2.kept hb
  have hB4 := hB2.trans (hb.mono hB2.size)
  have hlt4 := kz4.lt
  clear hb
  go_wp2
  go_ret2
  exact ⟨_, rfl, World.ownsRow_nil _ _ _ _, hB4⟩

set_option maxHeartbeats 2000000 in
theorem zinst_late (b s m k d t m' k' d' t' n u T : Int) (w : World) (ht : Tab w) (hz : zErr ⟨b, s, m, k, d, t, m', k', d', t'⟩ = 0) (hd : DayOk n u) (hT : n * 1440 + u - b = T) (hs : 0 < s) (hq1 : shiftV ⟨b, s, m, k, d, t, m', k', d', t'⟩ (T - s) = 0) (hq2 : shiftV ⟨b, s, m, k, d, t, m', k', d', t'⟩ T = 0) :
    Calls Tryd.prog 50 #[.agg #[.int .i64 b, .int .i64 s, .int .i64 m, .int .i64 k, .int .i64 d, .int .i64 t, .int .i64 m', .int .i64 k', .int .i64 d', .int .i64 t'], .int .i64 n, .int .i64 u] w fun e w' => ∃ out, e = .returned (.tuple #[out, .int .i64 0]) ∧ w'.ownsRow (w.heap.size + 1) 3 1 out 1 [.int .i64 T] ∧ Below w.heap.size w w' := by
  obtain ⟨i0, hi, hz0, hz1, hz2⟩ := info_parts int_info
  have zt := zErr_turns hz
  obtain ⟨hb1, hb2⟩ := zErr_b hz
  have hsb := zErr_sb hz
  simp only at zt hb1 hb2 hsb
  obtain ⟨d1, d2, d3, d4⟩ := hd
  have e1 := Lib.hid (show (decide (401 ≤ n) && decide (n ≤ 3651998)) = true by simp; omega)
  have e2 := Lib.hid (show (decide (0 ≤ u) && decide (u ≤ 1439)) = true by simp; omega)
  have t1 : 576000 ≤ T := by omega
  have t2 : T ≤ 5258879999 := by omega
  have t3 : 560000 ≤ T - s := by omega
  have wT := Lib.hid hT
  have hA := (Below.refl w.heap.size w).alloc (Nat.le_refl _) (.cells #[.int .i64 b, .int .i64 s, .int .i64 m, .int .i64 k, .int .i64 d, .int .i64 t, .int .i64 m', .int .i64 k', .int .i64 d', .int .i64 t'] 49)
  have kz := BlockIs.new w #[.int .i64 b, .int .i64 s, .int .i64 m, .int .i64 k, .int .i64 d, .int .i64 t, .int .i64 m', .int .i64 k', .int .i64 d', .int .i64 t'] 49
  have ht1 := ht.below hA
  go_enter Tryd.func50, Tryd.ntmps50
  go_wp2_with fail
  refine (zcheck_any _ _ _ _ _ _ _ _ _ _ 0 _ hz).mono ?_; rintro e w1 ⟨rfl, hb⟩
  have kz1 := kz.kept hb
  have ht2 := ht1.below hb
  have hB := hA.trans (hb.mono hA.size)
  have hlt := kz1.lt
  clear hb kz hA ht1
  have z0 : w1.cell? ⟨w.heap.size, 0, none⟩ = some (.int .i64 b) := kz1.cell rfl
  have z1 : w1.cell? ⟨w.heap.size, 1, none⟩ = some (.int .i64 s) := kz1.cell rfl
  have z2 : w1.cell? ⟨w.heap.size, 2, none⟩ = some (.int .i64 m) := kz1.cell rfl
  have z3 : w1.cell? ⟨w.heap.size, 3, none⟩ = some (.int .i64 k) := kz1.cell rfl
  have z4 : w1.cell? ⟨w.heap.size, 4, none⟩ = some (.int .i64 d) := kz1.cell rfl
  have z5 : w1.cell? ⟨w.heap.size, 5, none⟩ = some (.int .i64 t) := kz1.cell rfl
  have z6 : w1.cell? ⟨w.heap.size, 6, none⟩ = some (.int .i64 m') := kz1.cell rfl
  have z7 : w1.cell? ⟨w.heap.size, 7, none⟩ = some (.int .i64 k') := kz1.cell rfl
  have z8 : w1.cell? ⟨w.heap.size, 8, none⟩ = some (.int .i64 d') := kz1.cell rfl
  have z9 : w1.cell? ⟨w.heap.size, 9, none⟩ = some (.int .i64 t') := kz1.cell rfl
  go_wp2_with fail
  refine (zwithin_any _ _ _ _).mono ?_; rintro e w' ⟨rfl, rfl⟩
  rw [e1.out]
  go_wp2_with fail
  refine (zwithin_any _ _ _ _).mono ?_; rintro e w' ⟨rfl, rfl⟩
  rw [e2.out]
  go_wp2_with fail
  refine (zshift_ok b s m k d t m' k' d' t' _ _ _ ht2 (by unfold Tm; first | omega | (rw [hT]; omega)) hz hb1 hb2 (fun c => (zt c).1) (fun c => (zt c).2) hq1).mono ?_; rintro e w2 ⟨rfl, hb⟩
  have kz2 := kz1.kept hb
  have ht3 := ht2.below hb
  have hB2 := hB.trans (hb.mono hB.size)
  have hlt2 := kz2.lt
  clear hb z0 z1 z2 z3 z4 z5 z6 z7 z8 z9
  have z0 : w2.cell? ⟨w.heap.size, 0, none⟩ = some (.int .i64 b) := kz2.cell rfl
  have z1 : w2.cell? ⟨w.heap.size, 1, none⟩ = some (.int .i64 s) := kz2.cell rfl
  have z2 : w2.cell? ⟨w.heap.size, 2, none⟩ = some (.int .i64 m) := kz2.cell rfl
  have z3 : w2.cell? ⟨w.heap.size, 3, none⟩ = some (.int .i64 k) := kz2.cell rfl
  have z4 : w2.cell? ⟨w.heap.size, 4, none⟩ = some (.int .i64 d) := kz2.cell rfl
  have z5 : w2.cell? ⟨w.heap.size, 5, none⟩ = some (.int .i64 t) := kz2.cell rfl
  have z6 : w2.cell? ⟨w.heap.size, 6, none⟩ = some (.int .i64 m') := kz2.cell rfl
  have z7 : w2.cell? ⟨w.heap.size, 7, none⟩ = some (.int .i64 k') := kz2.cell rfl
  have z8 : w2.cell? ⟨w.heap.size, 8, none⟩ = some (.int .i64 d') := kz2.cell rfl
  have z9 : w2.cell? ⟨w.heap.size, 9, none⟩ = some (.int .i64 t') := kz2.cell rfl
  go_wp2_with fail
  refine (zshift_ok b s m k d t m' k' d' t' _ _ _ ht3 (by unfold Tm; first | omega | (rw [hT]; omega)) hz hb1 hb2 (fun c => (zt c).1) (fun c => (zt c).2) hq2).mono ?_; rintro e w4 ⟨rfl, hb⟩
  have kz4 := kz2.kept hb
  have hB4 := hB2.trans (hb.mono hB2.size)
  have hlt4 := kz4.lt
  clear hb
  go_wp2_with (first | (at_builtin; refine wpList_append_lies _ rfl (.tmp 54) (.tmp 56) 60 rfl (w.heap.size + 1) 3 i0 (.int .i64 0) 1 8 Tryd.underlying60 hi hz0 hz1 hz2 rfl (by decide) _ 0 _ rfl (World.ownsRow_nil _ _ _ _) ⟨w4.heap.size, 0, none⟩ 1 1 [.int .i64 T] rfl rfl (cell_one_new _ _ _) (by intro u hu; simp at hu; subst hu; rfl) (by omega) (by unfold maxLen; omega) (by omega) (by simp; omega) _ rfl ?_; intro g2 capg2 w5 k2 k3 k4 k5))
  go_ret2
  refine ⟨_, rfl, by simpa using k2, ?_⟩
  exact (hB4.alloc hB4.size _).grown k3 (by simp; omega) (fun k e => by cases e)

end Go.Proofs.YtdjfmcomeaijgaaDoor
