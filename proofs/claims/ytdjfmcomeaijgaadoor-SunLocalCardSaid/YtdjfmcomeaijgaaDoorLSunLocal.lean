/- SunLocal: at that instant clocks tell that minute, or so much later as they are shifted: the walk. -/
import Derived.Test.YtdjfmcomeaijgaaDoorZA
import Derived.Test.YtdjfmcomeaijgaaDoorZ9
import Derived.Test.YtdjfmcomeaijgaaDoorS8
namespace Go.Proofs.YtdjfmcomeaijgaaDoor
open Go Go.RowKit
set_option linter.unusedVariables false
set_option linter.unusedSimpArgs false

theorem sunAt_tight {f : Nat → Int} {n : Int} (hi : SunIn f) (hy : SunBy f) (h1 : 1 ≤ n) (h2 : n ≤ 3652059) : 700 ≤ sunAt f n ∧ sunAt f n ≤ 1500 := by
  obtain ⟨my, mn⟩ := of_may h1 h2
  obtain ⟨y1, y2, m1, m2, _⟩ := may_in my
  have dm := dim_ok (okM_of my)
  obtain ⟨d1, d2⟩ := my
  unfold sunAt
  have i1 := hi (mOf n - 1).toNat (by omega)
  have i3 := hy (mOf n - 1).toNat (by omega)
  rw [show (mOf n - 1).toNat + 1 = (mOf n).toNat by omega] at i3
  generalize f (mOf n - 1).toNat = A at *
  generalize f ((mOf n).toNat % 12) = B at *
  generalize dim (yOf n) (mOf n) = D at *
  have p1 := Int.mul_le_mul_of_nonneg_right i3.2 (show 0 ≤ dOf n - 1 by omega)
  have p2 := Int.mul_le_mul_of_nonneg_right i3.1 (show 0 ≤ dOf n - 1 by omega)
  have q1 : -120 ≤ (B - A) * (dOf n - 1) / D := Int.le_ediv_of_mul_le (by omega) (by omega)
  have q2 : (B - A) * (dOf n - 1) / D ≤ 120 := Int.ediv_le_of_le_mul (by omega) (by omega)
  omega

theorem sat_some (f : Nat → Int) (n : Int) (w : World) (ht : Tab w) (hf : ∀ i, i < 12 → I64 (f i)) : Calls Tryd.prog 38 #[.agg (sunArr f), .int .i64 n] w fun e w' => ∃ a1 a2, e = .returned (.tuple #[.int .i64 a1, .int .i64 a2]) ∧ Below w.heap.size w w' := by
  rcases sunErr_cases f with ⟨cs, hi, hy⟩ | cs | cs
  · by_cases c : n < 1 ∨ 3652059 < n
    · exact (sat_day f n w cs c hf).mono fun e w' ⟨h1, h2⟩ => ⟨_, _, h1, h2⟩
    · exact (sat_ok f n w ht cs hi hy (by omega) (by omega) hf).mono fun e w' ⟨h1, h2⟩ => ⟨_, _, h1, h2⟩
  · exact (sat_err f n _ w cs (by omega) hf).mono fun e w' ⟨h1, h2⟩ => ⟨_, _, h1, h2⟩
  · exact (sat_err f n _ w cs (by omega) hf).mono fun e w' ⟨h1, h2⟩ => ⟨_, _, h1, h2⟩

theorem zone_cells {W : World} {p : Nat} {b s m k d t m' k' d' t' : Int} {y : TypeId} (h : BlockIs W p #[.int .i64 b, .int .i64 s, .int .i64 m, .int .i64 k, .int .i64 d, .int .i64 t, .int .i64 m', .int .i64 k', .int .i64 d', .int .i64 t'] y) : W.cell? ⟨p, 0, none⟩ = some (.int .i64 b) ∧ W.cell? ⟨p, 1, none⟩ = some (.int .i64 s) ∧ W.cell? ⟨p, 2, none⟩ = some (.int .i64 m) ∧ W.cell? ⟨p, 3, none⟩ = some (.int .i64 k) ∧ W.cell? ⟨p, 4, none⟩ = some (.int .i64 d) ∧ W.cell? ⟨p, 5, none⟩ = some (.int .i64 t) ∧ W.cell? ⟨p, 6, none⟩ = some (.int .i64 m') ∧ W.cell? ⟨p, 7, none⟩ = some (.int .i64 k') ∧ W.cell? ⟨p, 8, none⟩ = some (.int .i64 d') ∧ W.cell? ⟨p, 9, none⟩ = some (.int .i64 t') :=
  ⟨h.cell rfl, h.cell rfl, h.cell rfl, h.cell rfl, h.cell rfl, h.cell rfl, h.cell rfl, h.cell rfl, h.cell rfl, h.cell rfl⟩

set_option maxHeartbeats 4000000 in
theorem slocal_err (b s m k d t m' k' d' t' : Int) (f : Nat → Int) (n r : Int) (w : World) (ht : Tab w) (hf : ∀ i, i < 12 → I64 (f i)) (hn : I64 n) (hr : momV ⟨b, s, m, k, d, t, m', k', d', t'⟩ f n = (0, r)) (h0 : r ≠ 0) :
    Calls Tryd.prog 20 #[.agg #[.int .i64 b, .int .i64 s, .int .i64 m, .int .i64 k, .int .i64 d, .int .i64 t, .int .i64 m', .int .i64 k', .int .i64 d', .int .i64 t'], .agg (sunArr f), .int .i64 n] w fun e w' => e = .returned (.bool true) ∧ Below w.heap.size w w' := by
  have hne : (r != 0) = true := by simpa using h0
  have kA := (BlockIs.new w #[.int .i64 b, .int .i64 s, .int .i64 m, .int .i64 k, .int .i64 d, .int .i64 t, .int .i64 m', .int .i64 k', .int .i64 d', .int .i64 t'] 49).alloc (.cells (sunArr f) 40)
  have sA := BlockIs.new (w.alloc (.cells #[.int .i64 b, .int .i64 s, .int .i64 m, .int .i64 k, .int .i64 d, .int .i64 t, .int .i64 m', .int .i64 k', .int .i64 d', .int .i64 t'] 49)) (sunArr f) 40
  rw [World.size_alloc] at sA
  have hA := ((Below.refl w.heap.size w).alloc (Nat.le_refl _) (.cells #[.int .i64 b, .int .i64 s, .int .i64 m, .int .i64 k, .int .i64 d, .int .i64 t, .int .i64 m', .int .i64 k', .int .i64 d', .int .i64 t'] 49)).alloc (by simp) (.cells (sunArr f) 40)
  have htA := ht.below hA
  unfold sunArr at kA sA hA htA ⊢
  go_enter Tryd.func20, Tryd.ntmps20
  go_wp2_with fail
  rw [sunArr_out]
  refine (smoment_any _ _ _ _ _ _ _ _ _ _ f n 0 r _ htA hf hn hr).mono ?_; rintro e v1 ⟨rfl, hb⟩
  have k1 := kA.kept hb
  have s1 := sA.kept hb
  have h1 := hA.trans (hb.mono hA.size)
  have ht1 := htA.below hb
  clear hb kA sA hA htA
  obtain ⟨z0, z1, z2, z3, z4, z5, z6, z7, z8, z9⟩ := zone_cells k1
  obtain ⟨y0, y1, y2, y3, y4, y5, y6, y7, y8, y9, y10, y11⟩ := sun_cells (f := f) s1
  go_wp2_with fail
  rw [sunArr_out]
  refine (sat_some f n _ ht1 hf).mono ?_; rintro e v2 ⟨a1, a2, rfl, hb⟩
  have k2 := k1.kept hb
  have s2 := s1.kept hb
  have h2 := h1.trans (hb.mono h1.size)
  have ht2 := ht1.below hb
  clear hb k1 s1 h1 ht1 z0 z1 z2 z3 z4 z5 z6 z7 z8 z9 y0 y1 y2 y3 y4 y5 y6 y7 y8 y9 y10 y11
  obtain ⟨z0, z1, z2, z3, z4, z5, z6, z7, z8, z9⟩ := zone_cells k2
  obtain ⟨y0, y1, y2, y3, y4, y5, y6, y7, y8, y9, y10, y11⟩ := sun_cells (f := f) s2
  go_wp2_with fail
  refine (awake7 _ ht2).mono ?_; rintro e v3 ⟨rfl, hb⟩
  have k3 := k2.kept hb
  have s3 := s2.kept hb
  have h3 := h2.trans (hb.mono h2.size)
  have ht3 := ht2.below hb
  clear hb k2 s2 h2 ht2 z0 z1 z2 z3 z4 z5 z6 z7 z8 z9 y0 y1 y2 y3 y4 y5 y6 y7 y8 y9 y10 y11
  obtain ⟨z0, z1, z2, z3, z4, z5, z6, z7, z8, z9⟩ := zone_cells k3
  obtain ⟨y0, y1, y2, y3, y4, y5, y6, y7, y8, y9, y10, y11⟩ := sun_cells (f := f) s3
  have HB := Lib.hid h3
  clear h3
  go_wp2
  go_ret
  exact ⟨rfl, HB.out⟩

set_option maxHeartbeats 4000000 in
theorem slocal_plain (b s m k d t m' k' d' t' : Int) (f : Nat → Int) (n U A a1 b1 : Int) (w : World) (ht : Tab w) (hf : ∀ i, i < 12 → I64 (f i)) (hn : I64 n) (hr : momV ⟨b, s, m, k, d, t, m', k', d', t'⟩ f n = (U, 0)) (hz : zErr ⟨b, s, m, k, d, t, m', k', d', t'⟩ = 0) (cs : sunErr f = 0) (hi : SunIn f) (hy : SunBy f) (n1 : 1 ≤ n) (n2 : n ≤ 3652059)
    (ha : sunAt f n = A) (A1 : 700 ≤ A) (A2 : A ≤ 1500) (hu : tErr ⟨b, s, m, k, d, t, m', k', d', t'⟩ U = 0) (hq : shiftV ⟨b, s, m, k, d, t, m', k', d', t'⟩ U = 0) (e1 : (U + b + 0) / 1440 = a1) (f1 : (U + b + 0) % 1440 = b1) (g1 : 0 ≤ a1) (g2 : a1 ≤ 4000000) (g3 : 0 ≤ b1) (g4 : b1 ≤ 1439) (hbe : (a1 * 1440 + b1 == n * 1440 + A) = true) (hb1 : -720 ≤ b) (hb2 : b ≤ 840) :
    Calls Tryd.prog 20 #[.agg #[.int .i64 b, .int .i64 s, .int .i64 m, .int .i64 k, .int .i64 d, .int .i64 t, .int .i64 m', .int .i64 k', .int .i64 d', .int .i64 t'], .agg (sunArr f), .int .i64 n] w fun e w' => e = .returned (.bool true) ∧ Below w.heap.size w w' := by
  have E1 := Lib.hid e1
  have F1 := Lib.hid f1
  have HA := Lib.hid ha
  skip
  clear e1 f1 ha
  have kA := (BlockIs.new w #[.int .i64 b, .int .i64 s, .int .i64 m, .int .i64 k, .int .i64 d, .int .i64 t, .int .i64 m', .int .i64 k', .int .i64 d', .int .i64 t'] 49).alloc (.cells (sunArr f) 40)
  have sA := BlockIs.new (w.alloc (.cells #[.int .i64 b, .int .i64 s, .int .i64 m, .int .i64 k, .int .i64 d, .int .i64 t, .int .i64 m', .int .i64 k', .int .i64 d', .int .i64 t'] 49)) (sunArr f) 40
  rw [World.size_alloc] at sA
  have hA := ((Below.refl w.heap.size w).alloc (Nat.le_refl _) (.cells #[.int .i64 b, .int .i64 s, .int .i64 m, .int .i64 k, .int .i64 d, .int .i64 t, .int .i64 m', .int .i64 k', .int .i64 d', .int .i64 t'] 49)).alloc (by simp) (.cells (sunArr f) 40)
  have htA := ht.below hA
  unfold sunArr at kA sA hA htA ⊢
  go_enter Tryd.func20, Tryd.ntmps20
  go_wp2_with fail
  rw [sunArr_out]
  refine (smoment_any _ _ _ _ _ _ _ _ _ _ f n U 0 _ htA hf hn hr).mono ?_; rintro e v1 ⟨rfl, hb⟩
  have k1 := kA.kept hb
  have s1 := sA.kept hb
  have h1 := hA.trans (hb.mono hA.size)
  have ht1 := htA.below hb
  clear hb kA sA hA htA
  obtain ⟨z0, z1, z2, z3, z4, z5, z6, z7, z8, z9⟩ := zone_cells k1
  obtain ⟨y0, y1, y2, y3, y4, y5, y6, y7, y8, y9, y10, y11⟩ := sun_cells (f := f) s1
  go_wp2_with fail
  rw [sunArr_out]
  refine (sat_ok f n _ ht1 cs hi hy n1 n2 hf).mono ?_; rintro e v2 ⟨rfl, hb⟩
  have k2 := k1.kept hb
  have s2 := s1.kept hb
  have h2 := h1.trans (hb.mono h1.size)
  have ht2 := ht1.below hb
  clear hb k1 s1 h1 ht1 z0 z1 z2 z3 z4 z5 z6 z7 z8 z9 y0 y1 y2 y3 y4 y5 y6 y7 y8 y9 y10 y11
  obtain ⟨z0, z1, z2, z3, z4, z5, z6, z7, z8, z9⟩ := zone_cells k2
  obtain ⟨y0, y1, y2, y3, y4, y5, y6, y7, y8, y9, y10, y11⟩ := sun_cells (f := f) s2
  rw [HA.out]
  go_wp2_with fail
  refine (zlocal_ok _ _ _ _ _ _ _ _ _ _ U 0 a1 b1 _ ht2 hu hq E1.out F1.out).mono ?_; rintro e v3 ⟨rfl, hb⟩
  have k3 := k2.kept hb
  have s3 := s2.kept hb
  have h3 := h2.trans (hb.mono h2.size)
  have ht3 := ht2.below hb
  clear hb k2 s2 h2 ht2 z0 z1 z2 z3 z4 z5 z6 z7 z8 z9 y0 y1 y2 y3 y4 y5 y6 y7 y8 y9 y10 y11
  obtain ⟨z0, z1, z2, z3, z4, z5, z6, z7, z8, z9⟩ := zone_cells k3
  obtain ⟨y0, y1, y2, y3, y4, y5, y6, y7, y8, y9, y10, y11⟩ := sun_cells (f := f) s3
  go_wp2_with fail
  refine (zsummer_ok _ _ _ _ _ _ _ _ _ _ U 0 _ ht3 hu hb1 hb2 hq).mono ?_; rintro e v4 ⟨rfl, hb⟩
  have k4 := k3.kept hb
  have s4 := s3.kept hb
  have h4 := h3.trans (hb.mono h3.size)
  have ht4 := ht3.below hb
  clear hb k3 s3 h3 ht3 z0 z1 z2 z3 z4 z5 z6 z7 z8 z9 y0 y1 y2 y3 y4 y5 y6 y7 y8 y9 y10 y11
  obtain ⟨z0, z1, z2, z3, z4, z5, z6, z7, z8, z9⟩ := zone_cells k4
  obtain ⟨y0, y1, y2, y3, y4, y5, y6, y7, y8, y9, y10, y11⟩ := sun_cells (f := f) s4
  go_wp2_with fail
  refine (awake7 _ ht4).mono ?_; rintro e v5 ⟨rfl, hb⟩
  have k5 := k4.kept hb
  have s5 := s4.kept hb
  have h5 := h4.trans (hb.mono h4.size)
  have ht5 := ht4.below hb
  clear hb k4 s4 h4 ht4 z0 z1 z2 z3 z4 z5 z6 z7 z8 z9 y0 y1 y2 y3 y4 y5 y6 y7 y8 y9 y10 y11
  obtain ⟨z0, z1, z2, z3, z4, z5, z6, z7, z8, z9⟩ := zone_cells k5
  obtain ⟨y0, y1, y2, y3, y4, y5, y6, y7, y8, y9, y10, y11⟩ := sun_cells (f := f) s5
  have HB := Lib.hid h5
  clear h5
  go_wp2
  go_ret
  exact ⟨rfl, HB.out⟩

set_option maxHeartbeats 4000000 in
theorem slocal_shift (b s m k d t m' k' d' t' : Int) (f : Nat → Int) (n U A a1 b1 : Int) (w : World) (ht : Tab w) (hf : ∀ i, i < 12 → I64 (f i)) (hn : I64 n) (hr : momV ⟨b, s, m, k, d, t, m', k', d', t'⟩ f n = (U, 0)) (hz : zErr ⟨b, s, m, k, d, t, m', k', d', t'⟩ = 0) (cs : sunErr f = 0) (hi : SunIn f) (hy : SunBy f) (n1 : 1 ≤ n) (n2 : n ≤ 3652059)
    (ha : sunAt f n = A) (A1 : 700 ≤ A) (A2 : A ≤ 1500) (hu : tErr ⟨b, s, m, k, d, t, m', k', d', t'⟩ U = 0) (hq : shiftV ⟨b, s, m, k, d, t, m', k', d', t'⟩ U = s) (e1 : (U + b + s) / 1440 = a1) (f1 : (U + b + s) % 1440 = b1) (g1 : 0 ≤ a1) (g2 : a1 ≤ 4000000) (g3 : 0 ≤ b1) (g4 : b1 ≤ 1439) (hs : 0 < s) (hs2 : s ≤ 120) (hbe : (a1 * 1440 + b1 == n * 1440 + (A + s)) = true) (hb1 : -720 ≤ b) (hb2 : b ≤ 840) :
    Calls Tryd.prog 20 #[.agg #[.int .i64 b, .int .i64 s, .int .i64 m, .int .i64 k, .int .i64 d, .int .i64 t, .int .i64 m', .int .i64 k', .int .i64 d', .int .i64 t'], .agg (sunArr f), .int .i64 n] w fun e w' => e = .returned (.bool true) ∧ Below w.heap.size w w' := by
  have E1 := Lib.hid e1
  have F1 := Lib.hid f1
  have HA := Lib.hid ha
  have hsd : decide (0 < s) = true := by simp; omega
  clear e1 f1 ha
  have kA := (BlockIs.new w #[.int .i64 b, .int .i64 s, .int .i64 m, .int .i64 k, .int .i64 d, .int .i64 t, .int .i64 m', .int .i64 k', .int .i64 d', .int .i64 t'] 49).alloc (.cells (sunArr f) 40)
  have sA := BlockIs.new (w.alloc (.cells #[.int .i64 b, .int .i64 s, .int .i64 m, .int .i64 k, .int .i64 d, .int .i64 t, .int .i64 m', .int .i64 k', .int .i64 d', .int .i64 t'] 49)) (sunArr f) 40
  rw [World.size_alloc] at sA
  have hA := ((Below.refl w.heap.size w).alloc (Nat.le_refl _) (.cells #[.int .i64 b, .int .i64 s, .int .i64 m, .int .i64 k, .int .i64 d, .int .i64 t, .int .i64 m', .int .i64 k', .int .i64 d', .int .i64 t'] 49)).alloc (by simp) (.cells (sunArr f) 40)
  have htA := ht.below hA
  unfold sunArr at kA sA hA htA ⊢
  go_enter Tryd.func20, Tryd.ntmps20
  go_wp2_with fail
  rw [sunArr_out]
  refine (smoment_any _ _ _ _ _ _ _ _ _ _ f n U 0 _ htA hf hn hr).mono ?_; rintro e v1 ⟨rfl, hb⟩
  have k1 := kA.kept hb
  have s1 := sA.kept hb
  have h1 := hA.trans (hb.mono hA.size)
  have ht1 := htA.below hb
  clear hb kA sA hA htA
  obtain ⟨z0, z1, z2, z3, z4, z5, z6, z7, z8, z9⟩ := zone_cells k1
  obtain ⟨y0, y1, y2, y3, y4, y5, y6, y7, y8, y9, y10, y11⟩ := sun_cells (f := f) s1
  go_wp2_with fail
  rw [sunArr_out]
  refine (sat_ok f n _ ht1 cs hi hy n1 n2 hf).mono ?_; rintro e v2 ⟨rfl, hb⟩
  have k2 := k1.kept hb
  have s2 := s1.kept hb
  have h2 := h1.trans (hb.mono h1.size)
  have ht2 := ht1.below hb
  clear hb k1 s1 h1 ht1 z0 z1 z2 z3 z4 z5 z6 z7 z8 z9 y0 y1 y2 y3 y4 y5 y6 y7 y8 y9 y10 y11
  obtain ⟨z0, z1, z2, z3, z4, z5, z6, z7, z8, z9⟩ := zone_cells k2
  obtain ⟨y0, y1, y2, y3, y4, y5, y6, y7, y8, y9, y10, y11⟩ := sun_cells (f := f) s2
  rw [HA.out]
  go_wp2_with fail
  refine (zlocal_ok _ _ _ _ _ _ _ _ _ _ U s a1 b1 _ ht2 hu hq E1.out F1.out).mono ?_; rintro e v3 ⟨rfl, hb⟩
  have k3 := k2.kept hb
  have s3 := s2.kept hb
  have h3 := h2.trans (hb.mono h2.size)
  have ht3 := ht2.below hb
  clear hb k2 s2 h2 ht2 z0 z1 z2 z3 z4 z5 z6 z7 z8 z9 y0 y1 y2 y3 y4 y5 y6 y7 y8 y9 y10 y11
  obtain ⟨z0, z1, z2, z3, z4, z5, z6, z7, z8, z9⟩ := zone_cells k3
  obtain ⟨y0, y1, y2, y3, y4, y5, y6, y7, y8, y9, y10, y11⟩ := sun_cells (f := f) s3
  go_wp2_with fail
  refine (zsummer_ok _ _ _ _ _ _ _ _ _ _ U s _ ht3 hu hb1 hb2 hq).mono ?_; rintro e v4 ⟨rfl, hb⟩
  have k4 := k3.kept hb
  have s4 := s3.kept hb
  have h4 := h3.trans (hb.mono h3.size)
  have ht4 := ht3.below hb
  clear hb k3 s3 h3 ht3 z0 z1 z2 z3 z4 z5 z6 z7 z8 z9 y0 y1 y2 y3 y4 y5 y6 y7 y8 y9 y10 y11
  obtain ⟨z0, z1, z2, z3, z4, z5, z6, z7, z8, z9⟩ := zone_cells k4
  obtain ⟨y0, y1, y2, y3, y4, y5, y6, y7, y8, y9, y10, y11⟩ := sun_cells (f := f) s4
  go_wp2_with fail
  refine (awake7 _ ht4).mono ?_; rintro e v5 ⟨rfl, hb⟩
  have k5 := k4.kept hb
  have s5 := s4.kept hb
  have h5 := h4.trans (hb.mono h4.size)
  have ht5 := ht4.below hb
  clear hb k4 s4 h4 ht4 z0 z1 z2 z3 z4 z5 z6 z7 z8 z9 y0 y1 y2 y3 y4 y5 y6 y7 y8 y9 y10 y11
  obtain ⟨z0, z1, z2, z3, z4, z5, z6, z7, z8, z9⟩ := zone_cells k5
  obtain ⟨y0, y1, y2, y3, y4, y5, y6, y7, y8, y9, y10, y11⟩ := sun_cells (f := f) s5
  have HB := Lib.hid h5
  clear h5
  go_wp2
  go_ret
  exact ⟨rfl, HB.out⟩

theorem sunlocal_any (b s m k d t m' k' d' t' : Int) (f : Nat → Int) (n : Int) (w : World) (ht : Tab w) (hf : ∀ i, i < 12 → I64 (f i)) (hn : I64 n) (hm : I64 s) : Calls Tryd.prog 20 #[.agg #[.int .i64 b, .int .i64 s, .int .i64 m, .int .i64 k, .int .i64 d, .int .i64 t, .int .i64 m', .int .i64 k', .int .i64 d', .int .i64 t'], .agg (sunArr f), .int .i64 n] w fun e w' => e = .returned (.bool true) ∧ Below w.heap.size w w' := by
  by_cases hz : zErr ⟨b, s, m, k, d, t, m', k', d', t'⟩ = 0
  · rcases sunErr_cases f with ⟨cs, hi, hy⟩ | cs | cs
    · by_cases cn : n < 401 ∨ 3651998 < n
      · exact slocal_err _ _ _ _ _ _ _ _ _ _ f n 72 w ht hf hn (by unfold momV; rw [if_neg (by omega), if_neg (by omega), if_pos cn]) (by omega)
      · obtain ⟨hb1, hb2⟩ := zErr_b hz
        have sb := zErr_sb hz
        simp only at hb1 hb2 sb
        have at1 := sunAt_tight hi hy (n := n) (by omega) (by omega)
        obtain ⟨A, hA⟩ : ∃ A, sunAt f n = A := ⟨_, rfl⟩
        rw [hA] at at1
        have hr : momV ⟨b, s, m, k, d, t, m', k', d', t'⟩ f n = (n * 1440 + A - b, 0) := by unfold momV; rw [if_neg (by omega), if_neg (by omega), if_neg cn, hA]
        have hu : tErr ⟨b, s, m, k, d, t, m', k', d', t'⟩ (n * 1440 + A - b) = 0 := by unfold tErr; rw [if_neg (by omega), if_neg (by omega)]
        have qc := shiftV_cases ⟨b, s, m, k, d, t, m', k', d', t'⟩ (n * 1440 + A - b)
        rcases qc with q0 | ⟨q0, qn⟩
        · exact slocal_plain b s m k d t m' k' d' t' f n _ A _ _ w ht hf hn hr hz cs hi hy (by omega) (by omega) hA at1.1 at1.2 hu q0 rfl rfl (by omega) (by omega) (by omega) (by omega) (beq_iff_eq.2 (by omega)) hb1 hb2
        · simp only at q0 qn
          exact slocal_shift b s m k d t m' k' d' t' f n _ A _ _ w ht hf hn hr hz cs hi hy (by omega) (by omega) hA at1.1 at1.2 hu q0 rfl rfl (by omega) (by omega) (by omega) (by omega) (by omega) sb.2 (beq_iff_eq.2 (by omega)) hb1 hb2
    · exact slocal_err _ _ _ _ _ _ _ _ _ _ f n _ w ht hf hn (by unfold momV; rw [if_neg (by omega), if_pos (by omega)]) (by omega)
    · exact slocal_err _ _ _ _ _ _ _ _ _ _ f n _ w ht hf hn (by unfold momV; rw [if_neg (by omega), if_pos (by omega)]) (by omega)
  · exact slocal_err _ _ _ _ _ _ _ _ _ _ f n _ w ht hf hn (by unfold momV; rw [if_pos hz]) hz

theorem walk_SunLocal (b s m k d t m' k' d' t' : Int) (a0 a1 a2 a3 a4 a5 a6 a7 a8 a9 a10 a11 : Int) (n : Int) (v0 : (Lit.int .i64 b).wf = true) (v1 : (Lit.int .i64 s).wf = true) (v2 : (Lit.int .i64 m).wf = true) (v3 : (Lit.int .i64 k).wf = true) (v4 : (Lit.int .i64 d).wf = true) (v5 : (Lit.int .i64 t).wf = true) (v6 : (Lit.int .i64 m').wf = true) (v7 : (Lit.int .i64 k').wf = true) (v8 : (Lit.int .i64 d').wf = true) (v9 : (Lit.int .i64 t').wf = true) (w0 : (Lit.int .i64 a0).wf = true) (w1 : (Lit.int .i64 a1).wf = true) (w2 : (Lit.int .i64 a2).wf = true) (w3 : (Lit.int .i64 a3).wf = true) (w4 : (Lit.int .i64 a4).wf = true) (w5 : (Lit.int .i64 a5).wf = true) (w6 : (Lit.int .i64 a6).wf = true) (w7 : (Lit.int .i64 a7).wf = true) (w8 : (Lit.int .i64 a8).wf = true) (w9 : (Lit.int .i64 a9).wf = true) (w10 : (Lit.int .i64 a10).wf = true) (w11 : (Lit.int .i64 a11).wf = true) (wn : (Lit.int .i64 n).wf = true) (w : World) (ht : Tab w) : Calls Tryd.prog 20 #[.agg #[.int .i64 b, .int .i64 s, .int .i64 m, .int .i64 k, .int .i64 d, .int .i64 t, .int .i64 m', .int .i64 k', .int .i64 d', .int .i64 t'], .agg #[.int .i64 a0, .int .i64 a1, .int .i64 a2, .int .i64 a3, .int .i64 a4, .int .i64 a5, .int .i64 a6, .int .i64 a7, .int .i64 a8, .int .i64 a9, .int .i64 a10, .int .i64 a11], .int .i64 n] w fun e w' => e = .returned (.bool true) ∧ Below w.heap.size w w' :=
  sunlocal_any b s m k d t m' k' d' t' (sun12 a0 a1 a2 a3 a4 a5 a6 a7 a8 a9 a10 a11) n w ht (sun12_i64 w0 w1 w2 w3 w4 w5 w6 w7 w8 w9 w10 w11) (i64_of wn) (i64_of v1)

end Go.Proofs.YtdjfmcomeaijgaaDoor
