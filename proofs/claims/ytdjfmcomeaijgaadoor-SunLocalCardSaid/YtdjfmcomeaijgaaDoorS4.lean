/- sunset.At and the reference's: when the sun sets. -/
import Derived.Test.YtdjfmcomeaijgaaDoorS3
import Derived.Test.YtdjfmcomeaijgaaDoorGR
namespace Go.Proofs.YtdjfmcomeaijgaaDoor
open Go Go.RowKit
set_option linter.unusedVariables false
set_option linter.unusedSimpArgs false

/-- When the sun sets on a day. -/
def sunAt (f : Nat → Int) (n : Int) : Int := f (mOf n - 1).toNat + ((f ((mOf n).toNat % 12) - f (mOf n - 1).toNat) * (dOf n - 1)) / dim (yOf n) (mOf n)

theorem mul_bd {x y : Int} (h1 : -120 ≤ x) (h2 : x ≤ 120) (h3 : 0 ≤ y) (h4 : y ≤ 30) : -3600 ≤ x * y ∧ x * y ≤ 3600 := by
  have a := Int.mul_le_mul_of_nonneg_right h1 h3
  have b := Int.mul_le_mul_of_nonneg_right h2 h3
  omega
theorem sun_cells {W : World} {b : Nat} {f : Nat → Int} {t : TypeId} (h : BlockIs W b (sunArr f) t) : W.cell? ⟨b, 0, none⟩ = some (.int .i64 (f 0)) ∧ W.cell? ⟨b, 1, none⟩ = some (.int .i64 (f 1)) ∧ W.cell? ⟨b, 2, none⟩ = some (.int .i64 (f 2)) ∧ W.cell? ⟨b, 3, none⟩ = some (.int .i64 (f 3)) ∧ W.cell? ⟨b, 4, none⟩ = some (.int .i64 (f 4)) ∧ W.cell? ⟨b, 5, none⟩ = some (.int .i64 (f 5)) ∧
    W.cell? ⟨b, 6, none⟩ = some (.int .i64 (f 6)) ∧ W.cell? ⟨b, 7, none⟩ = some (.int .i64 (f 7)) ∧ W.cell? ⟨b, 8, none⟩ = some (.int .i64 (f 8)) ∧ W.cell? ⟨b, 9, none⟩ = some (.int .i64 (f 9)) ∧ W.cell? ⟨b, 10, none⟩ = some (.int .i64 (f 10)) ∧ W.cell? ⟨b, 11, none⟩ = some (.int .i64 (f 11)) :=
  ⟨h.cell rfl, h.cell rfl, h.cell rfl, h.cell rfl, h.cell rfl, h.cell rfl, h.cell rfl, h.cell rfl, h.cell rfl, h.cell rfl, h.cell rfl, h.cell rfl⟩
theorem sunArr_out (f : Nat → Int) : (#[.int .i64 (f 0), .int .i64 (f 1), .int .i64 (f 2), .int .i64 (f 3), .int .i64 (f 4), .int .i64 (f 5), .int .i64 (f 6), .int .i64 (f 7), .int .i64 (f 8), .int .i64 (f 9), .int .i64 (f 10), .int .i64 (f 11)] : Array Value) = sunArr f := rfl

set_option maxHeartbeats 1000000 in
theorem sat_err (f : Nat → Int) (n r : Int) (w : World) (hr : sunErr f = r) (h0 : r ≠ 0) (hf : ∀ i, i < 12 → I64 (f i)) :
    Calls Tryd.prog 38 #[.agg (sunArr f), .int .i64 n] w fun e w' => e = .returned (.tuple #[.int .i64 0, .int .i64 r]) ∧ Below w.heap.size w w' := by
  have hne : (r != 0) = true := by simpa using h0
  unfold sunArr
  go_enter Tryd.func38, Tryd.ntmps38
  go_wp2_with fail
  rw [sunArr_out]
  refine (scheck_any f r _ hr hf).mono ?_; rintro e w1 ⟨rfl, hb1⟩
  have hB := Lib.hid (((Below.refl w.heap.size w).alloc (Nat.le_refl _) (.cells (sunArr f) 40)).trans (hb1.mono (by simp)))
  clear hb1
  go_wp2
  go_ret2
  exact ⟨rfl, hB.out⟩

set_option maxHeartbeats 1000000 in
theorem sat_day (f : Nat → Int) (n : Int) (w : World) (hr : sunErr f = 0) (hn : n < 1 ∨ 3652059 < n) (hf : ∀ i, i < 12 → I64 (f i)) :
    Calls Tryd.prog 38 #[.agg (sunArr f), .int .i64 n] w fun e w' => e = .returned (.tuple #[.int .i64 0, .int .i64 72]) ∧ Below w.heap.size w w' := by
  unfold sunArr
  go_enter Tryd.func38, Tryd.ntmps38
  go_wp2_with fail
  rw [sunArr_out]
  refine (scheck_any f 0 _ hr hf).mono ?_; rintro e w1 ⟨rfl, hb1⟩
  have hB := (((Below.refl w.heap.size w).alloc (Nat.le_refl _) (.cells (sunArr f) 40)).trans (hb1.mono (by simp)))
  clear hb1
  go_wp2_with fail
  refine (gof_no _ _ hn).mono ?_; rintro e w2 ⟨rfl, hb2⟩
  have hB2 := hB.trans (hb2.mono hB.size)
  have hB3 := Lib.hid (hB2.alloc hB2.size (.cells #[.int .i64 0, .int .i64 0, .int .i64 0] 23))
  clear hb2 hB hB2
  go_wp2
  go_ret2
  exact ⟨rfl, hB3.out⟩

set_option maxHeartbeats 2000000 in
theorem sat_ok (f : Nat → Int) (n : Int) (w : World) (ht : Tab w) (hr : sunErr f = 0) (hi : SunIn f) (hy : SunBy f) (h1 : 1 ≤ n) (h2 : n ≤ 3652059) (hf : ∀ i, i < 12 → I64 (f i)) :
    Calls Tryd.prog 38 #[.agg (sunArr f), .int .i64 n] w fun e w' => e = .returned (.tuple #[.int .i64 (sunAt f n), .int .i64 0]) ∧ Below w.heap.size w w' := by
  obtain ⟨my, mn⟩ := of_may h1 h2
  obtain ⟨y1, y2, m1, m2, _⟩ := may_in my
  have dm := dim_ok (okM_of my)
  have db := dim_bd (yOf n) (mOf n)
  obtain ⟨d1, d2⟩ := my
  have hA : sunAt f n = f (mOf n - 1).toNat + ((f ((mOf n).toNat % 12) - f (mOf n - 1).toNat) * (dOf n - 1)) / dim (yOf n) (mOf n) := rfl
  have ht1 := ht.alloc (.cells (sunArr f) 40)
  unfold sunArr
  go_enter Tryd.func38, Tryd.ntmps38
  go_wp2_with fail
  rw [sunArr_out]
  refine (scheck_any f 0 _ hr hf).mono ?_; rintro e w1 ⟨rfl, hb1⟩
  have hB := (((Below.refl w.heap.size w).alloc (Nat.le_refl _) (.cells (sunArr f) 40)).trans (hb1.mono (by simp)))
  have ht2 := ht1.below hb1
  have bS := (BlockIs.new w (sunArr f) 40).kept hb1
  clear hb1
  go_wp2_with fail
  refine (gof_ok _ _ ht2 h1 h2).mono ?_; rintro e w2 ⟨rfl, hb2⟩
  have hB2 := hB.trans (hb2.mono hB.size)
  have ht3 := (ht2.below hb2).alloc (.cells #[.int .i64 (yOf n), .int .i64 (mOf n), .int .i64 (dOf n)] 23)
  have bS2 := (bS.kept hb2).alloc (.cells #[.int .i64 (yOf n), .int .i64 (mOf n), .int .i64 (dOf n)] 23)
  have bD2 := BlockIs.new w2 #[.int .i64 (yOf n), .int .i64 (mOf n), .int .i64 (dOf n)] 23
  have hB3 := hB2.alloc hB2.size (.cells #[.int .i64 (yOf n), .int .i64 (mOf n), .int .i64 (dOf n)] 23)
  clear hb2 hB hB2 bS ht1 ht2
  obtain ⟨z0, z1, z2, z3, z4, z5, z6, z7, z8, z9, z10, z11⟩ := sun_cells bS2
  go_wp2_with fail
  rw [sunArr_out]
  generalize yOf n = Y at *
  generalize mOf n = M at *
  generalize dOf n = D at *
  have em : M - 1 = ((M - 1).toNat : Int) := by omega
  have em2 : M = (M.toNat : Int) := by omega
  have bL := BlockIs.new (w2.alloc (.cells #[.int .i64 Y, .int .i64 M, .int .i64 D] 23)) #[.int .i64 (M - 1), .int .i64 M] 3
  have hzl : (w2.alloc (.cells #[.int .i64 Y, .int .i64 M, .int .i64 D] 23)).heap.size = w2.heap.size + 1 := by simp
  rw [hzl] at bL
  have hB4 := hB3.alloc hB3.size (.cells #[.int .i64 (M - 1), .int .i64 M] 3)
  have bD4 := bD2.alloc (.cells #[.int .i64 (M - 1), .int .i64 M] 3)
  have ht4 := ht3.alloc (.cells #[.int .i64 (M - 1), .int .i64 M] 3)
  refine (smonths_at f _ _ (M - 1).toNat M.toNat _ _ bL em em2 (by omega) (by omega)).mono ?_
  rintro e w3 ⟨g, cap, rfl, g0, g1, hg1, hg2, hb3⟩
  rw [Nat.mod_eq_of_lt (by omega)] at g0
  have i1 := hi (M - 1).toNat (by omega)
  have i2 := hi (M.toNat % 12) (Nat.mod_lt _ (by omega))
  have i3 := hy (M - 1).toNat (by omega)
  rw [show (M - 1).toNat + 1 = M.toNat by omega] at i3
  have bD5 := bD4.kept hb3
  have ht5 := ht4.below hb3
  have HB := Lib.hid (hB4.trans (hb3.mono hB4.size))
  have c0 : w3.cell? ⟨w2.heap.size, 0, none⟩ = some (.int .i64 Y) := bD5.cell rfl
  have c1 : w3.cell? ⟨w2.heap.size, 1, none⟩ = some (.int .i64 M) := bD5.cell rfl
  have c2 : w3.cell? ⟨w2.heap.size, 2, none⟩ = some (.int .i64 D) := bD5.cell rfl
  have HA := Lib.hid hA
  clear z0 z1 z2 z3 z4 z5 z6 z7 z8 z9 z10 z11 bS2 bD2 bD4 bD5 bL hB3 hB4 hb3 ht3 ht4 hzl hg1 hg2 hA em em2
  generalize f (M - 1).toNat = A at *
  generalize f (M.toNat % 12) = B at *
  have mb := mul_bd (x := B - A) (y := D - 1) i3.2 i3.1 (by omega) (by omega)
  have qb : -3600 ≤ (B - A) * (D - 1) / dim Y M ∧ (B - A) * (D - 1) / dim Y M ≤ 3600 := by
    constructor
    · exact Int.le_ediv_of_mul_le (by omega) (by omega)
    · exact Int.ediv_le_of_le_mul (by omega) (by omega)
  go_wp2_with fail
  go_quiet ((first
    | (go_at_call 24; exact quiet_left (gdays_any _ _ _ (Tab.drewN ht5 _)))
    | (go_at_call 61; exact quiet_left (div_ok _ _ _ (by omega) (by unfold I64; omega)))))
  go_wp2_with fail
  go_ret2
  exact ⟨two HA.out.symm rfl, below_drewN HB.out _⟩

set_option maxHeartbeats 2000000 in
theorem rsat_ok (f : Nat → Int) (n : Int) (w : World) (hi : SunIn f) (hy : SunBy f) (h1 : 1 ≤ n) (h2 : n ≤ 3652059) :
    Calls Tryd.prog 39 #[.agg (sunArr f), .int .i64 n] w fun e w' => e = .returned (.int .i64 (sunAt f n)) ∧ Below w.heap.size w w' := by
  obtain ⟨my, mn⟩ := of_may h1 h2
  obtain ⟨y1, y2, m1, m2, _⟩ := may_in my
  have dm := dim_ok (okM_of my)
  have db := dim_bd (yOf n) (mOf n)
  obtain ⟨d1, d2⟩ := my
  have hA : sunAt f n = f (mOf n - 1).toNat + ((f ((mOf n).toNat % 12) - f (mOf n - 1).toNat) * (dOf n - 1)) / dim (yOf n) (mOf n) := rfl
  unfold sunArr
  go_enter Tryd.func39, Tryd.ntmps39
  go_wp2_with fail
  refine (rgof_any _ _ h1 h2).mono ?_; rintro e w2 ⟨rfl, hb2⟩
  rw [sunArr_out] at hb2 ⊢
  have hB2 := (((Below.refl w.heap.size w).alloc (Nat.le_refl _) (.cells (sunArr f) 40)).trans (hb2.mono (by simp)))
  have bS2 := ((BlockIs.new w (sunArr f) 40).kept hb2).alloc (.cells #[.int .i64 (yOf n), .int .i64 (mOf n), .int .i64 (dOf n)] 23)
  have bD2 := BlockIs.new w2 #[.int .i64 (yOf n), .int .i64 (mOf n), .int .i64 (dOf n)] 23
  have hB3 := Lib.hid (hB2.alloc hB2.size (.cells #[.int .i64 (yOf n), .int .i64 (mOf n), .int .i64 (dOf n)] 23))
  clear hb2 hB2
  generalize yOf n = Y at *
  generalize mOf n = M at *
  generalize dOf n = D at *
  have em : M - 1 = ((M - 1).toNat : Int) := by omega
  have em2 : M % 12 = ((M.toNat % 12 : Nat) : Int) := by omega
  have c1 := bS2.cell (sunArr_at f (i := (M - 1).toNat) (by omega))
  have c2 := bS2.cell (sunArr_at f (i := M.toNat % 12) (Nat.mod_lt _ (by omega)))
  have i1 := hi (M - 1).toNat (by omega)
  have i2 := hi (M.toNat % 12) (Nat.mod_lt _ (by omega))
  have i3 := hy (M - 1).toNat (by omega)
  rw [show (M - 1).toNat + 1 = M.toNat by omega] at i3
  have j1 : (0 : Int) ≤ ((M - 1).toNat : Int) := by omega
  have j2 : ((M - 1).toNat : Int) < 12 := by omega
  have j3 : (0 : Int) ≤ ((M.toNat % 12 : Nat) : Int) := by omega
  have j4 : ((M.toNat % 12 : Nat) : Int) < 12 := by omega
  have HA := Lib.hid hA
  clear hA
  generalize hp : (M - 1).toNat = p at *
  generalize hq : M.toNat % 12 = q at *
  generalize f p = A at *
  generalize f q = B at *
  have mb := mul_bd (x := B - A) (y := D - 1) i3.2 i3.1 (by omega) (by omega)
  have qb : -3600 ≤ (B - A) * (D - 1) / dim Y M ∧ (B - A) * (D - 1) / dim Y M ≤ 3600 := by
    constructor
    · exact Int.le_ediv_of_mul_le (by omega) (by omega)
    · exact Int.ediv_le_of_le_mul (by omega) (by omega)
  have b0 : (w2.alloc (.cells #[.int .i64 Y, .int .i64 M, .int .i64 D] 23)).cell? ⟨w2.heap.size, 0, none⟩ = some (.int .i64 Y) := bD2.cell rfl
  have b1 : (w2.alloc (.cells #[.int .i64 Y, .int .i64 M, .int .i64 D] 23)).cell? ⟨w2.heap.size, 1, none⟩ = some (.int .i64 M) := bD2.cell rfl
  have b2 : (w2.alloc (.cells #[.int .i64 Y, .int .i64 M, .int .i64 D] 23)).cell? ⟨w2.heap.size, 2, none⟩ = some (.int .i64 D) := bD2.cell rfl
  clear bS2 bD2
  go_wp2_with fail
  generalize (w2.alloc (.cells #[.int .i64 Y, .int .i64 M, .int .i64 D] 23)) = W0 at *
  go_quiet ((first
    | (go_at_call 25; exact quiet_left (rgdays_any _ _ _))
    | (go_at_call 62; exact quiet_left (rdiv_ok _ _ _ (by omega) (by unfold I64; omega)))))
  go_wp2_with fail
  go_ret
  exact ⟨one HA.out.symm, below_drewN hB3.out _⟩

end Go.Proofs.YtdjfmcomeaijgaaDoor
