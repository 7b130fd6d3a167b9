/- The reference of chapter 6: the instants at which clocks tell a minute. -/
import Derived.Test.YtdjfmcomeaijgaaDoorZD
namespace Go.Proofs.YtdjfmcomeaijgaaDoor
open Go Go.RowKit
set_option linter.unusedVariables false
set_option linter.unusedSimpArgs false

set_option maxHeartbeats 400000 in
theorem rztime_any (u : Int) (w : World) : Calls Tryd.prog 47 #[.int .i64 u] w fun e w' => e = .returned (.bool (decide (576000 ≤ u) && decide (u ≤ 5258879999))) ∧ w = w' := by
  go_enter Tryd.func47, Tryd.ntmps47
  go_wp2
  all_goals
    go_ret
    refine ⟨boolE ?_, rfl⟩
    simp [*] <;> omega
set_option maxHeartbeats 400000 in
theorem rzday_any (n u : Int) (w : World) : Calls Tryd.prog 51 #[.int .i64 n, .int .i64 u] w fun e w' => e = .returned (.bool (decide (DayOk n u))) ∧ w = w' := by
  by_cases c : DayOk n u
  · rw [decide_eq_true c]
    unfold DayOk at c
    obtain ⟨c1, c2, c3, c4⟩ := c
    go_enter Tryd.func51, Tryd.ntmps51
    go_wp2
    all_goals
      go_ret
      exact ⟨boolE (by first | rfl | (simp; omega)), rfl⟩
  · rw [decide_eq_false c]
    unfold DayOk at c
    have c' : n < 401 ∨ (401 ≤ n ∧ 3651998 < n) ∨ (401 ≤ n ∧ n ≤ 3651998 ∧ u < 0) ∨ (401 ≤ n ∧ n ≤ 3651998 ∧ 0 ≤ u ∧ 1439 < u) := by omega
    clear c
    rcases c' with c1 | ⟨c1, c2⟩ | ⟨c1, c2, c3⟩ | ⟨c1, c2, c3, c4⟩
    all_goals
      go_enter Tryd.func51, Tryd.ntmps51
      go_wp2
      all_goals
        go_ret
        exact ⟨boolE (by first | rfl | (simp; omega)), rfl⟩

set_option maxHeartbeats 2000000 in
theorem rzinst_two (b s m k d t m' k' d' t' n u T : Int) (w : World) (hz : zErr ⟨b, s, m, k, d, t, m', k', d', t'⟩ = 0) (hd : DayOk n u) (hT : n * 1440 + u - b = T) (hs : 0 < s) (hq1 : shiftV ⟨b, s, m, k, d, t, m', k', d', t'⟩ (T - s) = s) (hq2 : shiftV ⟨b, s, m, k, d, t, m', k', d', t'⟩ T = 0) :
    Calls Tryd.prog 53 #[.agg #[.int .i64 b, .int .i64 s, .int .i64 m, .int .i64 k, .int .i64 d, .int .i64 t, .int .i64 m', .int .i64 k', .int .i64 d', .int .i64 t'], .int .i64 n, .int .i64 u] w fun e w' => ∃ out, e = .returned out ∧ w'.ownsRow (w.heap.size + 1) 3 1 out 2 [.int .i64 (T - s), .int .i64 T] ∧ Below w.heap.size w w' := by
  obtain ⟨i0, hi, hz0, hz1, hz2⟩ := info_parts int_info
  obtain ⟨hb1, hb2⟩ := zErr_b hz
  have hsb := zErr_sb hz
  simp only at hb1 hb2 hsb
  obtain ⟨d1, d2, d3, d4⟩ := hd
  have t1 : 576000 ≤ T := by omega
  have t2 : T ≤ 5258879999 := by omega
  have t3 : 560000 ≤ T - s := by omega
  have wT := Lib.hid hT
  have hB := (Below.refl w.heap.size w).alloc (Nat.le_refl _) (.cells #[.int .i64 b, .int .i64 s, .int .i64 m, .int .i64 k, .int .i64 d, .int .i64 t, .int .i64 m', .int .i64 k', .int .i64 d', .int .i64 t'] 49)
  have kz := BlockIs.new w #[.int .i64 b, .int .i64 s, .int .i64 m, .int .i64 k, .int .i64 d, .int .i64 t, .int .i64 m', .int .i64 k', .int .i64 d', .int .i64 t'] 49
  have hlt := kz.lt
  go_enter Tryd.func53, Tryd.ntmps53
  go_wp2_with fail
  refine (rztold_ok b s m k d t m' k' d' t' _ s (n * 1440 + u) _ (by unfold Tm; omega) hz hq1 (by omega)).mono ?_; rintro e w2 ⟨rfl, hb⟩
  have kz2 := kz.kept hb
  have hB2 := hB.trans (hb.mono hB.size)
  have hlt2 := kz2.lt
  clear hb
  obtain ⟨z0, z1, z2, z3, z4, z5, z6, z7, z8, z9⟩ := zone_cells kz2
  have AP : ∀ {W2 : World}, (w2.alloc (.cells #[.int .i64 (T - s)] 3)).grownBy W2 (Value.ownBlock (.slice none 0 0)) → BlockIs W2 w.heap.size #[.int .i64 b, .int .i64 s, .int .i64 m, .int .i64 k, .int .i64 d, .int .i64 t, .int .i64 m', .int .i64 k', .int .i64 d', .int .i64 t'] 49 ∧ Below w.heap.size w W2 := fun h => by
    have x := grown_to_below h rfl
    have y := hB2.alloc hB2.size (.cells #[.int .i64 (T - s)] 3)
    exact ⟨(kz2.alloc _).kept x, y.trans (x.mono y.size)⟩
  go_wp2_with (first | (at_builtin; refine wpList_append_lies _ rfl (.tmp 31) (.tmp 33) 60 rfl (w.heap.size + 1) 3 i0 (.int .i64 0) 1 8 Tryd.underlying60 hi hz0 hz1 hz2 rfl (by decide) _ 0 _ rfl (World.ownsRow_nil _ _ _ _) ⟨w2.heap.size, 0, none⟩ 1 1 [.int .i64 (T - s)] rfl rfl (cell_one_new _ _ _) (by intro u hu; simp at hu; subst hu; rfl) (by omega) (by unfold maxLen; omega) (by omega) (by simp; omega) _ rfl ?_; intro g capg w3 h2 h3 h4 h5; obtain ⟨kz3, hB3⟩ := AP h3; have hlt3 := kz3.lt; clear z0 z1 z2 z3 z4 z5 z6 z7 z8 z9; (have ⟨z0, z1, z2, z3, z4, z5, z6, z7, z8, z9⟩ := zone_cells kz3)))
  refine (rztold_ok b s m k d t m' k' d' t' _ 0 (n * 1440 + u) _ (by unfold Tm; omega) hz hq2 (by omega)).mono ?_; rintro e w4 ⟨rfl, hb⟩
  have kz4 := kz3.kept hb
  have hB4 := hB3.trans (hb.mono hB3.size)
  have hlt4 := kz4.lt
  clear z0 z1 z2 z3 z4 z5 z6 z7 z8 z9
  obtain ⟨z0, z1, z2, z3, z4, z5, z6, z7, z8, z9⟩ := zone_cells kz4
  have h2' := h2.kept (grown_none hb) (.inr (by simp [Value.ownBlock]))
  clear hb
  go_wp2_with (first | (at_builtin; refine wpList_append_lies _ rfl (.tmp 43) (.tmp 48) 60 rfl (w.heap.size + 1) 3 i0 (.int .i64 0) 1 8 Tryd.underlying60 hi hz0 hz1 hz2 rfl (by decide) _ 1 _ rfl (h2'.alloc _) ⟨w4.heap.size, 0, none⟩ 1 1 [.int .i64 T] rfl rfl (cell_one_new _ _ _) (by intro u hu; simp at hu; subst hu; rfl) (by omega) (by unfold maxLen; omega) (by omega) (by simp; omega) _ rfl ?_; intro g2 capg2 w5 k2 k3 k4 k5))
  go_ret
  refine ⟨_, rfl, by simpa using k2, ?_⟩
  exact (hB4.alloc hB4.size _).grown k3 (by simp; omega) (fun k e => by have := (h2'.lt k e).1; omega)

set_option maxHeartbeats 2000000 in
theorem rzinst_early (b s m k d t m' k' d' t' n u T : Int) (w : World) (hz : zErr ⟨b, s, m, k, d, t, m', k', d', t'⟩ = 0) (hd : DayOk n u) (hT : n * 1440 + u - b = T) (hs : 0 < s) (hq1 : shiftV ⟨b, s, m, k, d, t, m', k', d', t'⟩ (T - s) = s) (hq2 : shiftV ⟨b, s, m, k, d, t, m', k', d', t'⟩ T = s) :
    Calls Tryd.prog 53 #[.agg #[.int .i64 b, .int .i64 s, .int .i64 m, .int .i64 k, .int .i64 d, .int .i64 t, .int .i64 m', .int .i64 k', .int .i64 d', .int .i64 t'], .int .i64 n, .int .i64 u] w fun e w' => ∃ out, e = .returned out ∧ w'.ownsRow (w.heap.size + 1) 3 1 out 1 [.int .i64 (T - s)] ∧ Below w.heap.size w w' := by
  obtain ⟨i0, hi, hz0, hz1, hz2⟩ := info_parts int_info
  obtain ⟨hb1, hb2⟩ := zErr_b hz
  have hsb := zErr_sb hz
  simp only at hb1 hb2 hsb
  obtain ⟨d1, d2, d3, d4⟩ := hd
  have t1 : 576000 ≤ T := by omega
  have t2 : T ≤ 5258879999 := by omega
  have t3 : 560000 ≤ T - s := by omega
  have wT := Lib.hid hT
  have hn2 : (n * 1440 + u + s == n * 1440 + u) = false := beq_eq_false_iff_ne.2 (by omega)
  have hB := (Below.refl w.heap.size w).alloc (Nat.le_refl _) (.cells #[.int .i64 b, .int .i64 s, .int .i64 m, .int .i64 k, .int .i64 d, .int .i64 t, .int .i64 m', .int .i64 k', .int .i64 d', .int .i64 t'] 49)
  have kz := BlockIs.new w #[.int .i64 b, .int .i64 s, .int .i64 m, .int .i64 k, .int .i64 d, .int .i64 t, .int .i64 m', .int .i64 k', .int .i64 d', .int .i64 t'] 49
  have hlt := kz.lt
  go_enter Tryd.func53, Tryd.ntmps53
  go_wp2_with fail
  refine (rztold_ok b s m k d t m' k' d' t' _ s (n * 1440 + u) _ (by unfold Tm; omega) hz hq1 (by omega)).mono ?_; rintro e w2 ⟨rfl, hb⟩
  have kz2 := kz.kept hb
  have hB2 := hB.trans (hb.mono hB.size)
  have hlt2 := kz2.lt
  clear hb
  obtain ⟨z0, z1, z2, z3, z4, z5, z6, z7, z8, z9⟩ := zone_cells kz2
  have AP : ∀ {W2 : World}, (w2.alloc (.cells #[.int .i64 (T - s)] 3)).grownBy W2 (Value.ownBlock (.slice none 0 0)) → BlockIs W2 w.heap.size #[.int .i64 b, .int .i64 s, .int .i64 m, .int .i64 k, .int .i64 d, .int .i64 t, .int .i64 m', .int .i64 k', .int .i64 d', .int .i64 t'] 49 ∧ Below w.heap.size w W2 := fun h => by
    have x := grown_to_below h rfl
    have y := hB2.alloc hB2.size (.cells #[.int .i64 (T - s)] 3)
    exact ⟨(kz2.alloc _).kept x, y.trans (x.mono y.size)⟩
  go_wp2_with (first | (at_builtin; refine wpList_append_lies _ rfl (.tmp 31) (.tmp 33) 60 rfl (w.heap.size + 1) 3 i0 (.int .i64 0) 1 8 Tryd.underlying60 hi hz0 hz1 hz2 rfl (by decide) _ 0 _ rfl (World.ownsRow_nil _ _ _ _) ⟨w2.heap.size, 0, none⟩ 1 1 [.int .i64 (T - s)] rfl rfl (cell_one_new _ _ _) (by intro u hu; simp at hu; subst hu; rfl) (by omega) (by unfold maxLen; omega) (by omega) (by simp; omega) _ rfl ?_; intro g capg w3 h2 h3 h4 h5; obtain ⟨kz3, hB3⟩ := AP h3; have hlt3 := kz3.lt; clear z0 z1 z2 z3 z4 z5 z6 z7 z8 z9; (have ⟨z0, z1, z2, z3, z4, z5, z6, z7, z8, z9⟩ := zone_cells kz3)))
  refine (rztold_ok b s m k d t m' k' d' t' _ s (n * 1440 + u + s) _ (by unfold Tm; omega) hz hq2 (by omega)).mono ?_; rintro e w4 ⟨rfl, hb⟩
  have kz4 := kz3.kept hb
  have hB4 := hB3.trans (hb.mono hB3.size)
  have hlt4 := kz4.lt
  clear z0 z1 z2 z3 z4 z5 z6 z7 z8 z9
  obtain ⟨z0, z1, z2, z3, z4, z5, z6, z7, z8, z9⟩ := zone_cells kz4
  have h2' := h2.kept (grown_none hb) (.inr (by simp [Value.ownBlock]))
  clear hb
  go_wp2
  go_ret
  exact ⟨_, rfl, h2', hB4⟩

set_option maxHeartbeats 2000000 in
theorem rzinst_none (b s m k d t m' k' d' t' n u T : Int) (w : World) (hz : zErr ⟨b, s, m, k, d, t, m', k', d', t'⟩ = 0) (hd : DayOk n u) (hT : n * 1440 + u - b = T) (hs : 0 < s) (hq1 : shiftV ⟨b, s, m, k, d, t, m', k', d', t'⟩ (T - s) = 0) (hq2 : shiftV ⟨b, s, m, k, d, t, m', k', d', t'⟩ T = s) :
    Calls Tryd.prog 53 #[.agg #[.int .i64 b, .int .i64 s, .int .i64 m, .int .i64 k, .int .i64 d, .int .i64 t, .int .i64 m', .int .i64 k', .int .i64 d', .int .i64 t'], .int .i64 n, .int .i64 u] w fun e w' => ∃ out, e = .returned out ∧ w'.ownsRow (w.heap.size + 1) 3 1 out 0 [] ∧ Below w.heap.size w w' := by
  obtain ⟨i0, hi, hz0, hz1, hz2⟩ := info_parts int_info
  obtain ⟨hb1, hb2⟩ := zErr_b hz
  have hsb := zErr_sb hz
  simp only at hb1 hb2 hsb
  obtain ⟨d1, d2, d3, d4⟩ := hd
  have t1 : 576000 ≤ T := by omega
  have t2 : T ≤ 5258879999 := by omega
  have t3 : 560000 ≤ T - s := by omega
  have wT := Lib.hid hT
  have hn1 : (n * 1440 + u - s == n * 1440 + u) = false := beq_eq_false_iff_ne.2 (by omega)
  have hn2 : (n * 1440 + u + s == n * 1440 + u) = false := beq_eq_false_iff_ne.2 (by omega)
  have hB := (Below.refl w.heap.size w).alloc (Nat.le_refl _) (.cells #[.int .i64 b, .int .i64 s, .int .i64 m, .int .i64 k, .int .i64 d, .int .i64 t, .int .i64 m', .int .i64 k', .int .i64 d', .int .i64 t'] 49)
  have kz := BlockIs.new w #[.int .i64 b, .int .i64 s, .int .i64 m, .int .i64 k, .int .i64 d, .int .i64 t, .int .i64 m', .int .i64 k', .int .i64 d', .int .i64 t'] 49
  have hlt := kz.lt
  go_enter Tryd.func53, Tryd.ntmps53
  go_wp2_with fail
  refine (rztold_ok b s m k d t m' k' d' t' _ 0 (n * 1440 + u - s) _ (by unfold Tm; omega) hz hq1 (by omega)).mono ?_; rintro e w2 ⟨rfl, hb⟩
  have kz2 := kz.kept hb
  have hB2 := hB.trans (hb.mono hB.size)
  have hlt2 := kz2.lt
  clear hb
  obtain ⟨z0, z1, z2, z3, z4, z5, z6, z7, z8, z9⟩ := zone_cells kz2
  go_wp2_with fail
  refine (rztold_ok b s m k d t m' k' d' t' _ s (n * 1440 + u + s) _ (by unfold Tm; omega) hz hq2 (by omega)).mono ?_; rintro e w4 ⟨rfl, hb⟩
  have kz4 := kz2.kept hb
  have hB4 := hB2.trans (hb.mono hB2.size)
  have hlt4 := kz4.lt
  clear z0 z1 z2 z3 z4 z5 z6 z7 z8 z9
  obtain ⟨z0, z1, z2, z3, z4, z5, z6, z7, z8, z9⟩ := zone_cells kz4
  clear hb
  go_wp2
  go_ret
  exact ⟨_, rfl, World.ownsRow_nil _ _ _ _, hB4⟩

set_option maxHeartbeats 2000000 in
theorem rzinst_late (b s m k d t m' k' d' t' n u T : Int) (w : World) (hz : zErr ⟨b, s, m, k, d, t, m', k', d', t'⟩ = 0) (hd : DayOk n u) (hT : n * 1440 + u - b = T) (hs : 0 < s) (hq1 : shiftV ⟨b, s, m, k, d, t, m', k', d', t'⟩ (T - s) = 0) (hq2 : shiftV ⟨b, s, m, k, d, t, m', k', d', t'⟩ T = 0) :
    Calls Tryd.prog 53 #[.agg #[.int .i64 b, .int .i64 s, .int .i64 m, .int .i64 k, .int .i64 d, .int .i64 t, .int .i64 m', .int .i64 k', .int .i64 d', .int .i64 t'], .int .i64 n, .int .i64 u] w fun e w' => ∃ out, e = .returned out ∧ w'.ownsRow (w.heap.size + 1) 3 1 out 1 [.int .i64 T] ∧ Below w.heap.size w w' := by
  obtain ⟨i0, hi, hz0, hz1, hz2⟩ := info_parts int_info
  obtain ⟨hb1, hb2⟩ := zErr_b hz
  have hsb := zErr_sb hz
  simp only at hb1 hb2 hsb
  obtain ⟨d1, d2, d3, d4⟩ := hd
  have t1 : 576000 ≤ T := by omega
  have t2 : T ≤ 5258879999 := by omega
  have t3 : 560000 ≤ T - s := by omega
  have wT := Lib.hid hT
  have hn1 : (n * 1440 + u - s == n * 1440 + u) = false := beq_eq_false_iff_ne.2 (by omega)
  have hB := (Below.refl w.heap.size w).alloc (Nat.le_refl _) (.cells #[.int .i64 b, .int .i64 s, .int .i64 m, .int .i64 k, .int .i64 d, .int .i64 t, .int .i64 m', .int .i64 k', .int .i64 d', .int .i64 t'] 49)
  have kz := BlockIs.new w #[.int .i64 b, .int .i64 s, .int .i64 m, .int .i64 k, .int .i64 d, .int .i64 t, .int .i64 m', .int .i64 k', .int .i64 d', .int .i64 t'] 49
  have hlt := kz.lt
  go_enter Tryd.func53, Tryd.ntmps53
  go_wp2_with fail
  refine (rztold_ok b s m k d t m' k' d' t' _ 0 (n * 1440 + u - s) _ (by unfold Tm; omega) hz hq1 (by omega)).mono ?_; rintro e w2 ⟨rfl, hb⟩
  have kz2 := kz.kept hb
  have hB2 := hB.trans (hb.mono hB.size)
  have hlt2 := kz2.lt
  clear hb
  obtain ⟨z0, z1, z2, z3, z4, z5, z6, z7, z8, z9⟩ := zone_cells kz2
  go_wp2_with fail
  refine (rztold_ok b s m k d t m' k' d' t' _ 0 (n * 1440 + u) _ (by unfold Tm; omega) hz hq2 (by omega)).mono ?_; rintro e w4 ⟨rfl, hb⟩
  have kz4 := kz2.kept hb
  have hB4 := hB2.trans (hb.mono hB2.size)
  have hlt4 := kz4.lt
  clear z0 z1 z2 z3 z4 z5 z6 z7 z8 z9
  obtain ⟨z0, z1, z2, z3, z4, z5, z6, z7, z8, z9⟩ := zone_cells kz4
  clear hb
  go_wp2_with (first | (at_builtin; refine wpList_append_lies _ rfl (.tmp 43) (.tmp 48) 60 rfl (w.heap.size + 1) 3 i0 (.int .i64 0) 1 8 Tryd.underlying60 hi hz0 hz1 hz2 rfl (by decide) _ 0 _ rfl (World.ownsRow_nil _ _ _ _) ⟨w4.heap.size, 0, none⟩ 1 1 [.int .i64 T] rfl rfl (cell_one_new _ _ _) (by intro u hu; simp at hu; subst hu; rfl) (by omega) (by unfold maxLen; omega) (by omega) (by simp; omega) _ rfl ?_; intro g2 capg2 w5 k2 k3 k4 k5))
  go_ret
  refine ⟨_, rfl, by simpa using k2, ?_⟩
  exact (hB4.alloc hB4.size _).grown k3 (by simp; omega) (fun k e => by cases e)

set_option maxHeartbeats 2000000 in
theorem rzinst_plain (b s m k d t m' k' d' t' n u T : Int) (w : World) (hz : zErr ⟨b, s, m, k, d, t, m', k', d', t'⟩ = 0) (hd : DayOk n u) (hT : n * 1440 + u - b = T) (hs : s = 0) (hq2 : shiftV ⟨b, s, m, k, d, t, m', k', d', t'⟩ T = 0) :
    Calls Tryd.prog 53 #[.agg #[.int .i64 b, .int .i64 s, .int .i64 m, .int .i64 k, .int .i64 d, .int .i64 t, .int .i64 m', .int .i64 k', .int .i64 d', .int .i64 t'], .int .i64 n, .int .i64 u] w fun e w' => ∃ out, e = .returned out ∧ w'.ownsRow (w.heap.size + 1) 3 1 out 1 [.int .i64 T] ∧ Below w.heap.size w w' := by
  obtain ⟨i0, hi, hz0, hz1, hz2⟩ := info_parts int_info
  obtain ⟨hb1, hb2⟩ := zErr_b hz
  have hsb := zErr_sb hz
  simp only at hb1 hb2 hsb
  obtain ⟨d1, d2, d3, d4⟩ := hd
  have t1 : 576000 ≤ T := by omega
  have t2 : T ≤ 5258879999 := by omega
  have t3 : 560000 ≤ T - s := by omega
  have wT := Lib.hid hT
  have hs0 : decide (0 < s) = false := by simp; omega
  have hsz := Lib.hid hs
  clear hs
  have hB := (Below.refl w.heap.size w).alloc (Nat.le_refl _) (.cells #[.int .i64 b, .int .i64 s, .int .i64 m, .int .i64 k, .int .i64 d, .int .i64 t, .int .i64 m', .int .i64 k', .int .i64 d', .int .i64 t'] 49)
  have kz := BlockIs.new w #[.int .i64 b, .int .i64 s, .int .i64 m, .int .i64 k, .int .i64 d, .int .i64 t, .int .i64 m', .int .i64 k', .int .i64 d', .int .i64 t'] 49
  have hlt := kz.lt
  go_enter Tryd.func53, Tryd.ntmps53
  go_wp2_with fail
  refine (rztold_ok b s m k d t m' k' d' t' _ 0 (n * 1440 + u) _ (by unfold Tm; omega) hz hq2 (by omega)).mono ?_; rintro e w4 ⟨rfl, hb⟩
  have kz4 := kz.kept hb
  have hB4 := hB.trans (hb.mono hB.size)
  have hlt4 := kz4.lt
  obtain ⟨z0, z1, z2, z3, z4, z5, z6, z7, z8, z9⟩ := zone_cells kz4
  clear hb
  go_wp2_with (first | (at_builtin; refine wpList_append_lies _ rfl (.tmp 43) (.tmp 48) 60 rfl (w.heap.size + 1) 3 i0 (.int .i64 0) 1 8 Tryd.underlying60 hi hz0 hz1 hz2 rfl (by decide) _ 0 _ rfl (World.ownsRow_nil _ _ _ _) ⟨w4.heap.size, 0, none⟩ 1 1 [.int .i64 T] rfl rfl (cell_one_new _ _ _) (by intro u hu; simp at hu; subst hu; rfl) (by omega) (by unfold maxLen; omega) (by omega) (by simp; omega) _ rfl ?_; intro g2 capg2 w5 k2 k3 k4 k5))
  go_ret
  refine ⟨_, rfl, by simpa using k2, ?_⟩
  exact (hB4.alloc hB4.size _).grown k3 (by simp; omega) (fun k e => by cases e)

end Go.Proofs.YtdjfmcomeaijgaaDoor
