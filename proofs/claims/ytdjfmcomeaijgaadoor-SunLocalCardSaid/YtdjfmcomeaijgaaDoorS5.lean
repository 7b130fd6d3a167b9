/- sunset.Moment and the reference's: the instant of the sunset. -/
import Derived.Test.YtdjfmcomeaijgaaDoorS4
import Derived.Test.YtdjfmcomeaijgaaDoorZ3
namespace Go.Proofs.YtdjfmcomeaijgaaDoor
open Go Go.RowKit
set_option linter.unusedVariables false
set_option linter.unusedSimpArgs false

theorem zErr_b {z : Zn} (h : zErr z = 0) : -720 ≤ z.b ∧ z.b ≤ 840 := by
  unfold zErr at h
  split at h
  · cases h
  · omega
theorem sunAt_bd {f : Nat → Int} {n : Int} (hi : SunIn f) (hy : SunBy f) (h1 : 1 ≤ n) (h2 : n ≤ 3652059) : -5000 ≤ sunAt f n ∧ sunAt f n ≤ 5000 := by
  obtain ⟨my, mn⟩ := of_may h1 h2
  obtain ⟨y1, y2, m1, m2, _⟩ := may_in my
  have dm := dim_ok (okM_of my)
  have db := dim_bd (yOf n) (mOf n)
  obtain ⟨d1, d2⟩ := my
  unfold sunAt
  have i1 := hi (mOf n - 1).toNat (by omega)
  have i3 := hy (mOf n - 1).toNat (by omega)
  rw [show (mOf n - 1).toNat + 1 = (mOf n).toNat by omega] at i3
  generalize f (mOf n - 1).toNat = A at *
  generalize f ((mOf n).toNat % 12) = B at *
  have mb := mul_bd (x := B - A) (y := dOf n - 1) i3.2 i3.1 (by omega) (by omega)
  have q1 : -3600 ≤ (B - A) * (dOf n - 1) / dim (yOf n) (mOf n) := Int.le_ediv_of_mul_le (by omega) (by omega)
  have q2 : (B - A) * (dOf n - 1) / dim (yOf n) (mOf n) ≤ 3600 := Int.ediv_le_of_le_mul (by omega) (by omega)
  omega
/-- The instant of a day's sunset, and an error's number. -/
def momV (z : Zn) (f : Nat → Int) (n : Int) : Int × Int :=
  if zErr z ≠ 0 then (0, zErr z) else if sunErr f ≠ 0 then (0, sunErr f) else if n < 401 ∨ 3651998 < n then (0, 72) else (n * 1440 + sunAt f n - z.b, 0)

set_option maxHeartbeats 2000000 in
theorem smoment_any (b s m k d t m' k' d' t' : Int) (f : Nat → Int) (n r1 r2 : Int) (w : World) (ht : Tab w) (hf : ∀ i, i < 12 → I64 (f i)) (hn : I64 n) (hr : momV ⟨b, s, m, k, d, t, m', k', d', t'⟩ f n = (r1, r2)) :
    Calls Tryd.prog 40 #[.agg #[.int .i64 b, .int .i64 s, .int .i64 m, .int .i64 k, .int .i64 d, .int .i64 t, .int .i64 m', .int .i64 k', .int .i64 d', .int .i64 t'], .agg (sunArr f), .int .i64 n] w fun e w' => e = .returned (.tuple #[.int .i64 r1, .int .i64 r2]) ∧ Below w.heap.size w w' := by
  have HR := Lib.hid hr
  clear hr
  have kz := (BlockIs.new w #[.int .i64 b, .int .i64 s, .int .i64 m, .int .i64 k, .int .i64 d, .int .i64 t, .int .i64 m', .int .i64 k', .int .i64 d', .int .i64 t'] 49).alloc (.cells (sunArr f) 40)
  have ks := BlockIs.new (w.alloc (.cells #[.int .i64 b, .int .i64 s, .int .i64 m, .int .i64 k, .int .i64 d, .int .i64 t, .int .i64 m', .int .i64 k', .int .i64 d', .int .i64 t'] 49)) (sunArr f) 40
  rw [World.size_alloc] at ks
  have hA := ((Below.refl w.heap.size w).alloc (Nat.le_refl _) (.cells #[.int .i64 b, .int .i64 s, .int .i64 m, .int .i64 k, .int .i64 d, .int .i64 t, .int .i64 m', .int .i64 k', .int .i64 d', .int .i64 t'] 49)).alloc (by simp) (.cells (sunArr f) 40)
  have ht1 := ht.below hA
  by_cases cz : zErr ⟨b, s, m, k, d, t, m', k', d', t'⟩ = 0
  · have zb := zErr_b cz
    simp only at zb
    by_cases cs : sunErr f = 0
    · rcases sunErr_cases f with ⟨_, hi, hy⟩ | c | c
      case inr.inl => omega
      case inr.inr => omega
      by_cases cn : n < 401 ∨ 3651998 < n
      · have hq : momV ⟨b, s, m, k, d, t, m', k', d', t'⟩ f n = (0, 72) := by
          unfold momV; rw [if_neg (by omega), if_neg (by omega), if_pos cn]
        obtain ⟨e1, e2⟩ := Prod.mk.inj (HR.out.symm.trans hq)
        have E1 := Lib.hid e1
        have E2 := Lib.hid e2
        clear e1 e2 hq
        by_cases cd : n < 1 ∨ 3652059 < n
        · unfold sunArr at kz ks ht1 hA ⊢
          go_enter Tryd.func40, Tryd.ntmps40
          go_wp2_with fail
          refine (zcheck_any _ _ _ _ _ _ _ _ _ _ 0 _ cz).mono ?_; rintro e w1 ⟨rfl, hb1⟩
          have hB1 := hA.trans (hb1.mono hA.size)
          obtain ⟨z0, z1, z2, z3, z4, z5, z6, z7, z8, z9, z10, z11⟩ := sun_cells (f := f) (ks.kept hb1)
          clear hb1
          go_wp2_with fail
          rw [sunArr_out]
          refine (sat_day f n _ cs cd hf).mono ?_; rintro e w2 ⟨rfl, hb2⟩
          have hB2 := Lib.hid (hB1.trans (hb2.mono hB1.size))
          clear hb2 hB1 z0 z1 z2 z3 z4 z5 z6 z7 z8 z9 z10 z11
          go_wp2_with fail
          go_ret2
          exact ⟨two E1.out.symm E2.out.symm, hB2.out⟩
        · have h1 : 1 ≤ n := by omega
          have h2 : n ≤ 3652059 := by omega
          have cn' : n < 401 ∨ (401 ≤ n ∧ 3651998 < n) := by omega
          clear cn cd
          unfold sunArr at kz ks ht1 hA ⊢
          rcases cn' with cn | ⟨cn, cn'⟩
          all_goals
            go_enter Tryd.func40, Tryd.ntmps40
            go_wp2_with fail
            refine (zcheck_any _ _ _ _ _ _ _ _ _ _ 0 _ cz).mono ?_; rintro e w1 ⟨rfl, hb1⟩
            have hB1 := hA.trans (hb1.mono hA.size)
            have ht2 := ht1.below hb1
            obtain ⟨z0, z1, z2, z3, z4, z5, z6, z7, z8, z9, z10, z11⟩ := sun_cells (f := f) (ks.kept hb1)
            clear hb1
            go_wp2_with fail
            rw [sunArr_out]
            refine (sat_ok f n _ ht2 cs hi hy h1 h2 hf).mono ?_; rintro e w2 ⟨rfl, hb2⟩
            have hB2 := Lib.hid (hB1.trans (hb2.mono hB1.size))
            clear hb2 hB1 z0 z1 z2 z3 z4 z5 z6 z7 z8 z9 z10 z11
            go_wp2_with fail
            go_ret2
            exact ⟨two E1.out.symm E2.out.symm, hB2.out⟩
      · have h1 : 401 ≤ n := by omega
        have h2 : n ≤ 3651998 := by omega
        have hq : momV ⟨b, s, m, k, d, t, m', k', d', t'⟩ f n = (n * 1440 + sunAt f n - b, 0) := by
          unfold momV; rw [if_neg (by omega), if_neg (by omega), if_neg cn]
        obtain ⟨e1, e2⟩ := Prod.mk.inj (HR.out.symm.trans hq)
        have E1 := Lib.hid e1
        have E2 := Lib.hid e2
        have sb := sunAt_bd hi hy (n := n) (by omega) (by omega)
        clear e1 e2 hq cn
        unfold sunArr at kz ks ht1 hA ⊢
        go_enter Tryd.func40, Tryd.ntmps40
        go_wp2_with fail
        refine (zcheck_any _ _ _ _ _ _ _ _ _ _ 0 _ cz).mono ?_; rintro e w1 ⟨rfl, hb1⟩
        have hB1 := hA.trans (hb1.mono hA.size)
        have ht2 := ht1.below hb1
        have kz1 := kz.kept hb1
        obtain ⟨z0, z1, z2, z3, z4, z5, z6, z7, z8, z9, z10, z11⟩ := sun_cells (f := f) (ks.kept hb1)
        clear hb1
        go_wp2_with fail
        rw [sunArr_out]
        refine (sat_ok f n _ ht2 cs hi hy (by omega) (by omega) hf).mono ?_; rintro e w2 ⟨rfl, hb2⟩
        have kz2 := kz1.kept hb2
        have hB2 := Lib.hid (hB1.trans (hb2.mono hB1.size))
        clear hb2 hB1 z0 z1 z2 z3 z4 z5 z6 z7 z8 z9 z10 z11
        have q0 : w2.cell? ⟨w.heap.size, 0, none⟩ = some (.int .i64 b) := kz2.cell rfl
        clear kz kz1 kz2 ks
        go_wp2_with fail
        go_ret2
        exact ⟨two E1.out.symm E2.out.symm, hB2.out⟩
    · have hq : momV ⟨b, s, m, k, d, t, m', k', d', t'⟩ f n = (0, sunErr f) := by
        unfold momV; rw [if_neg (by omega), if_pos cs]
      obtain ⟨e1, e2⟩ := Prod.mk.inj (HR.out.symm.trans hq)
      have E1 := Lib.hid e1
      have E2 := Lib.hid e2
      clear e1 e2 hq
      have hne : (sunErr f != 0) = true := by simpa using cs
      have hne2 : (sunErr f == 0) = false := by simpa using cs
      unfold sunArr at kz ks ht1 hA ⊢
      go_enter Tryd.func40, Tryd.ntmps40
      go_wp2_with fail
      refine (zcheck_any _ _ _ _ _ _ _ _ _ _ 0 _ cz).mono ?_; rintro e w1 ⟨rfl, hb1⟩
      have hB1 := hA.trans (hb1.mono hA.size)
      obtain ⟨z0, z1, z2, z3, z4, z5, z6, z7, z8, z9, z10, z11⟩ := sun_cells (f := f) (ks.kept hb1)
      clear hb1
      go_wp2_with fail
      rw [sunArr_out]
      refine (sat_err f n (sunErr f) _ rfl cs hf).mono ?_; rintro e w2 ⟨rfl, hb2⟩
      have hB2 := Lib.hid (hB1.trans (hb2.mono hB1.size))
      clear hb2 hB1 z0 z1 z2 z3 z4 z5 z6 z7 z8 z9 z10 z11
      go_wp2_with fail
      go_ret2
      exact ⟨two E1.out.symm E2.out.symm, hB2.out⟩
  · have hq : momV ⟨b, s, m, k, d, t, m', k', d', t'⟩ f n = (0, zErr ⟨b, s, m, k, d, t, m', k', d', t'⟩) := by
      unfold momV; rw [if_pos cz]
    obtain ⟨e1, e2⟩ := Prod.mk.inj (HR.out.symm.trans hq)
    have E1 := Lib.hid e1
    have E2 := Lib.hid e2
    clear e1 e2 hq
    generalize hE : zErr ⟨b, s, m, k, d, t, m', k', d', t'⟩ = E at *
    have hne : (E != 0) = true := by simpa using cz
    unfold sunArr at kz ks ht1 hA ⊢
    go_enter Tryd.func40, Tryd.ntmps40
    go_wp2_with fail
    refine (zcheck_any _ _ _ _ _ _ _ _ _ _ E _ hE).mono ?_; rintro e w1 ⟨rfl, hb1⟩
    have hB1 := Lib.hid (hA.trans (hb1.mono hA.size))
    clear hb1
    go_wp2_with fail
    go_ret2
    exact ⟨two E1.out.symm E2.out.symm, hB1.out⟩

end Go.Proofs.YtdjfmcomeaijgaaDoor
