/- Part of the proof of TopHoly. -/
import Derived.Test.YtfnifgppblbjhaaGreatDoorY03
import Derived.Test.YtfnifgppblbjhaaGreatDoorY08
import Derived.Deep.RegionHeld3
namespace Go.Proofs.YtfnifgppblbjhaaGreatDoor
set_option maxHeartbeats 8000000
open Go.RowKit
set_option linter.unusedVariables false
set_option linter.unusedSimpArgs false
theorem zErr_60 {z : Zn} (c : z.b < -720 ∨ 840 < z.b) : zErr z = 60 := by unfold zErr; rw [if_pos c]
theorem zErr_61 {z : Zn} (c : ¬ (z.b < -720 ∨ 840 < z.b)) (e : z.s < 0 ∨ 120 < z.s) : zErr z = 61 := by unfold zErr; rw [if_neg c, if_pos e]
theorem zErr_s {z : Zn} (c : ¬ (z.b < -720 ∨ 840 < z.b)) (e : z.s = 0) : zErr z = if zeroT z.m z.k z.d z.t = true ∧ zeroT z.m' z.k' z.d' z.t' = true then 0 else 62 := by unfold zErr; rw [if_neg c, if_neg (by omega), if_pos e]
theorem zErr_t {z : Zn} (c : ¬ (z.b < -720 ∨ 840 < z.b)) (e : 0 < z.s) (e2 : z.s ≤ 120) : zErr z = if tOk z.m z.k z.d z.t = true ∧ tOk z.m' z.k' z.d' z.t' = true ∧ 2 ≤ gapM z ∧ gapM z ≤ 10 then 0 else 62 := by unfold zErr; rw [if_neg c, if_neg (by omega), if_neg (by omega)]
theorem zcheck_any (b s m k d t m' k' d' t' r : Int) (w : World) (hr : zErr ⟨b, s, m, k, d, t, m', k', d', t'⟩ = r) :
  Calls Tryz.prog 71 #[.agg #[.int .i64 b, .int .i64 s, .int .i64 m, .int .i64 k, .int .i64 d, .int .i64 t, .int .i64 m', .int .i64 k', .int .i64 d', .int .i64 t']] w fun e w' => e = .returned (.int .i64 r) ∧ Below w.heap.size w w' := by
 have HR := Lib.hid hr
 clear hr
 have hA := (Below.refl w.heap.size w).alloc (Nat.le_refl _) (.cells #[.int .i64 b, .int .i64 s, .int .i64 m, .int .i64 k, .int .i64 d, .int .i64 t, .int .i64 m', .int .i64 k', .int .i64 d', .int .i64 t'] 28)
 have hA := Lib.hid (hA.alloc (by simp) (.cells #[.int .i64 0, .int .i64 0, .int .i64 0, .int .i64 0] 26))
 by_cases c1 : b < -720 ∨ 840 < b
 ·have H := Lib.hid (HR.out.symm.trans (zErr_60 c1))
  have hw : (decide (-720 ≤ b) && decide (b ≤ 840)) = false := by simp; omega
  clear c1
  go_enter Tryz.func71, Tryz.ntmps71
  go_wp2_with fail
  refine (zwithin_any _ _ _ _).mono ?_; rintro e w' ⟨rfl, rfl⟩
  rw [hw]
  go_wp2_with fail
  go_ret
  exact ⟨one H.out.symm, hA.out⟩
 ·have hw : (decide (-720 ≤ b) && decide (b ≤ 840)) = true := by simp; omega
  by_cases c2 : s < 0 ∨ 120 < s
  ·have H := Lib.hid (HR.out.symm.trans (zErr_61 c1 c2))
   have hw2 : (decide (0 ≤ s) && decide (s ≤ 120)) = false := by simp; omega
   clear c1 c2
   go_enter Tryz.func71, Tryz.ntmps71
   go_wp2_with fail
   refine (zwithin_any _ _ _ _).mono ?_; rintro e w' ⟨rfl, rfl⟩
   rw [hw]
   go_wp2_with fail
   refine (zwithin_any _ _ _ _).mono ?_; rintro e w' ⟨rfl, rfl⟩
   rw [hw2]
   go_wp2_with fail
   go_ret
   exact ⟨one H.out.symm, hA.out⟩
  ·have hw2 : (decide (0 ≤ s) && decide (s ≤ 120)) = true := by simp; omega
   by_cases c3 : s = 0
   ·have H := Lib.hid (HR.out.symm.trans (zErr_s c1 c3))
    subst c3
    clear c1 c2
    go_enter Tryz.func71, Tryz.ntmps71
    go_wp2_with fail
    refine (zwithin_any _ _ _ _).mono ?_; rintro e w' ⟨rfl, rfl⟩
    rw [hw]
    go_wp2_with fail
    refine (zwithin_any _ _ _ _).mono ?_; rintro e w' ⟨rfl, rfl⟩
    go_wp2_with fail
    all_goals
     go_ret
     refine ⟨one ?_, ((Below.refl _ _).alloc (Nat.le_refl _) _).alloc (by simp) _⟩
     rw [H.out]
     unfold zeroT
     simp [*]
   ·have c4 : 0 < s := by omega
    have c5 : s ≤ 120 := by omega
    have c6 : (s == 0) = false := beq_eq_false_iff_ne.2 c3
    have H := Lib.hid (HR.out.symm.trans (zErr_t c1 c4 c5))
    clear c1 c2 c3
    go_enter Tryz.func71, Tryz.ntmps71
    go_wp2_with fail
    refine (zwithin_any _ _ _ _).mono ?_; rintro e w' ⟨rfl, rfl⟩
    rw [hw]
    go_wp2_with fail
    refine (zwithin_any _ _ _ _).mono ?_; rintro e w' ⟨rfl, rfl⟩
    rw [hw2]
    have kz := (BlockIs.new w #[.int .i64 b, .int .i64 s, .int .i64 m, .int .i64 k, .int .i64 d, .int .i64 t, .int .i64 m', .int .i64 k', .int .i64 d', .int .i64 t'] 28).alloc (.cells #[.int .i64 0, .int .i64 0, .int .i64 0, .int .i64 0] 26)
    have hz2 : ((w.alloc (.cells #[.int .i64 b, .int .i64 s, .int .i64 m, .int .i64 k, .int .i64 d, .int .i64 t, .int .i64 m', .int .i64 k', .int .i64 d', .int .i64 t'] 28)).alloc (.cells #[.int .i64 0, .int .i64 0, .int .i64 0, .int .i64 0] 26)).heap.size = w.heap.size + 1 + 1 := by simp
    go_wp2_with fail
    generalize ((w.alloc (.cells #[.int .i64 b, .int .i64 s, .int .i64 m, .int .i64 k, .int .i64 d, .int .i64 t, .int .i64 m', .int .i64 k', .int .i64 d', .int .i64 t'] 28)).alloc (.cells #[.int .i64 0, .int .i64 0, .int .i64 0, .int .i64 0] 26)) = W1 at *
    have bL := BlockIs.new W1 #[.int .i64 m, .int .i64 k, .int .i64 d, .int .i64 t, .int .i64 m', .int .i64 k', .int .i64 d', .int .i64 t'] 26
    rw [hz2] at bL
    refine (tcontains_ok _ _ _ _ _ _ _ _ _ _ bL).mono ?_; rintro e w2 ⟨rfl, hb2⟩
    have kz2 := (kz.alloc (.cells #[.int .i64 m, .int .i64 k, .int .i64 d, .int .i64 t, .int .i64 m', .int .i64 k', .int .i64 d', .int .i64 t'] 26)).kept hb2
    have hB1 := hA.out.alloc hA.out.size (.cells #[.int .i64 m, .int .i64 k, .int .i64 d, .int .i64 t, .int .i64 m', .int .i64 k', .int .i64 d', .int .i64 t'] 26)
    have hB2 := Lib.hid (hB1.trans (hb2.mono hB1.size))
    clear hB1 hb2 bL kz hz2
    rcases Bool.eq_false_or_eq_true (tOk m k d t && tOk m' k' d' t') with h0 | h0
    ·have H0 := Lib.hid h0
     obtain ⟨h3, h4⟩ := (Bool.and_eq_true _ _).mp h0
     have H3 := Lib.hid h3
     have H4 := Lib.hid h4
     have mo := tOk_iff.1 h3
     have mo' := tOk_iff.1 h4
     rw [h0]
     clear h0 h3 h4
     have q2 : w2.cell? ⟨w.heap.size, 2, none⟩ = some (.int .i64 m) := kz2.cell rfl
     have q6 : w2.cell? ⟨w.heap.size, 6, none⟩ = some (.int .i64 m') := kz2.cell rfl
     clear kz2
     go_wp2_with fail
     all_goals
      refine (zwithin_any _ _ _ _).mono ?_; rintro e w' ⟨rfl, rfl⟩
      go_wp2
     all_goals
      go_ret
      refine ⟨one ?_, hB2.out⟩
      rw [H.out]
      try simp only [Bool.not_eq_true', Bool.not_eq_false', decide_eq_true_eq, decide_eq_false_iff_not] at *
      by_cases hg : 2 ≤ gapM ⟨b, s, m, k, d, t, m', k', d', t'⟩ ∧ gapM ⟨b, s, m, k, d, t, m', k', d', t'⟩ ≤ 10
      ·first
        | (rw [if_pos ⟨H3.out, H4.out, hg⟩]; done)
        | (exfalso; unfold gapM at hg; dsimp only at hg; split at hg <;> omega)
      ·first
        | (rw [if_neg (fun h => hg h.2.2)]; done)
        | (exfalso; unfold gapM at hg; dsimp only at hg; split at hg <;> omega)
    ·have H0 := Lib.hid h0
     rw [h0]
     clear h0 kz2
     go_wp2_with fail
     go_ret
     refine ⟨one ?_, hB2.out⟩
     rw [H.out, if_neg]
     intro ⟨h3, h4, _⟩
     have := H0.out
     rw [show tOk m k d t = true from h3, show tOk m' k' d' t' = true from h4] at this
     cases this
theorem rturn_any (m k d t : Int) (w : World) : Calls Tryz.prog 32 #[.agg #[.int .i64 m, .int .i64 k, .int .i64 d, .int .i64 t]] w fun e w' => e = .returned (.bool (tOk m k d t)) ∧ Below w.heap.size w w' := by
 have hB := (Below.refl w.heap.size w).alloc (Nat.le_refl _) (.cells #[.int .i64 m, .int .i64 k, .int .i64 d, .int .i64 t] 26)
 have HB := Lib.hid hB
 clear hB
 go_enter Tryz.func32, Tryz.ntmps32
 go_wp2
 all_goals
  go_ret
  refine ⟨boolE ?_, HB.out⟩
  unfold tOk
  simp_all <;> omega
theorem rzcheck_any (b s m k d t m' k' d' t' r : Int) (w : World) (hr : zErr ⟨b, s, m, k, d, t, m', k', d', t'⟩ = r) (hm : I64 m) (hm' : I64 m') :
  Calls Tryz.prog 13 #[.agg #[.int .i64 b, .int .i64 s, .int .i64 m, .int .i64 k, .int .i64 d, .int .i64 t, .int .i64 m', .int .i64 k', .int .i64 d', .int .i64 t']] w fun e w' => e = .returned (.int .i64 r) ∧ Below w.heap.size w w' := by
 have HR := Lib.hid hr
 clear hr
 have hA0 := (Below.refl w.heap.size w).alloc (Nat.le_refl _) (.cells #[.int .i64 b, .int .i64 s, .int .i64 m, .int .i64 k, .int .i64 d, .int .i64 t, .int .i64 m', .int .i64 k', .int .i64 d', .int .i64 t'] 28)
 have hA := Lib.hid (hA0.alloc (by simp) (.cells #[.int .i64 0, .int .i64 0, .int .i64 0, .int .i64 0] 26))
 have hA0 := Lib.hid hA0
 by_cases c1 : b < -720 ∨ 840 < b
 ·have H := Lib.hid (HR.out.symm.trans (zErr_60 c1))
  have c1' : b < -720 ∨ (-720 ≤ b ∧ 840 < b) := by omega
  clear c1
  rcases c1' with c1 | ⟨c1, c1'⟩
  all_goals
   go_enter Tryz.func13, Tryz.ntmps13
   go_wp2_with fail
   go_ret
   exact ⟨one H.out.symm, hA0.out⟩
 ·have c1a : -720 ≤ b := by omega
  have c1b : b ≤ 840 := by omega
  by_cases c2 : s < 0 ∨ 120 < s
  ·have H := Lib.hid (HR.out.symm.trans (zErr_61 c1 c2))
   have c2' : s < 0 ∨ (0 ≤ s ∧ 120 < s) := by omega
   clear c1 c2
   rcases c2' with c2 | ⟨c2, c2'⟩
   all_goals
    go_enter Tryz.func13, Tryz.ntmps13
    go_wp2_with fail
    go_ret
    exact ⟨one H.out.symm, hA0.out⟩
  ·by_cases c3 : s = 0
   ·have H := Lib.hid (HR.out.symm.trans (zErr_s c1 c3))
    subst c3
    clear c1 c2
    go_enter Tryz.func13, Tryz.ntmps13
    go_wp2_with fail
    all_goals
     go_ret
     refine ⟨one ?_, ((Below.refl _ _).alloc (Nat.le_refl _) _).alloc (by simp) _⟩
     rw [H.out]
     unfold zeroT
     simp [*]
   ·have c4 : 0 < s := by omega
    have c5 : s ≤ 120 := by omega
    have c6 : (s == 0) = false := beq_eq_false_iff_ne.2 c3
    have H := Lib.hid (HR.out.symm.trans (zErr_t c1 c4 c5))
    clear c1 c2 c3
    have kz := (BlockIs.new w #[.int .i64 b, .int .i64 s, .int .i64 m, .int .i64 k, .int .i64 d, .int .i64 t, .int .i64 m', .int .i64 k', .int .i64 d', .int .i64 t'] 28).alloc (.cells #[.int .i64 0, .int .i64 0, .int .i64 0, .int .i64 0] 26)
    go_enter Tryz.func13, Tryz.ntmps13
    go_wp2_with fail
    refine (rturn_any _ _ _ _ _).mono ?_; rintro e w1 ⟨rfl, hb1⟩
    have kz1 := kz.kept hb1
    have hB1 := hA.out.trans (hb1.mono hA.out.size)
    have q6 : w1.cell? ⟨w.heap.size, 6, none⟩ = some (.int .i64 m') := kz1.cell rfl
    have q7 : w1.cell? ⟨w.heap.size, 7, none⟩ = some (.int .i64 k') := kz1.cell rfl
    have q8 : w1.cell? ⟨w.heap.size, 8, none⟩ = some (.int .i64 d') := kz1.cell rfl
    have q9 : w1.cell? ⟨w.heap.size, 9, none⟩ = some (.int .i64 t') := kz1.cell rfl
    clear hb1 kz
    go_wp2_with fail
    refine (rturn_any _ _ _ _ _).mono ?_; rintro e w2 ⟨rfl, hb2⟩
    have kz2 := kz1.kept hb2
    have hB2 := Lib.hid (hB1.trans (hb2.mono hB1.size))
    clear hb2 hB1 kz1 q6 q7 q8 q9
    have q2 : w2.cell? ⟨w.heap.size, 2, none⟩ = some (.int .i64 m) := kz2.cell rfl
    have q6 : w2.cell? ⟨w.heap.size, 6, none⟩ = some (.int .i64 m') := kz2.cell rfl
    clear kz2
    unfold I64 at hm hm'
    rcases (Bool.eq_false_or_eq_true (tOk m k d t)).symm with h3 | h3
    ·have H3 := Lib.hid h3
     rw [h3]
     clear h3
     go_wp2
     all_goals
      go_ret
      refine ⟨one ?_, hB2.out⟩
      rw [H.out, if_neg]
      intro ⟨x, _, _⟩
      have := H3.out
      rw [show tOk m k d t = true from x] at this
      cases this
    ·have H3 := Lib.hid h3
     have mo := tOk_iff.1 h3
     rcases (Bool.eq_false_or_eq_true (tOk m' k' d' t')).symm with h4 | h4
     ·have H4 := Lib.hid h4
      rw [h3, h4]
      clear h3 h4
      go_wp2
      all_goals
       go_ret
       refine ⟨one ?_, hB2.out⟩
       rw [H.out, if_neg]
       intro ⟨_, x, _⟩
       have := H4.out
       rw [show tOk m' k' d' t' = true from x] at this
       cases this
     ·have H4 := Lib.hid h4
      have mo' := tOk_iff.1 h4
      rw [h3, h4]
      clear h3 h4
      go_wp2
      all_goals
       go_ret
       refine ⟨one ?_, hB2.out⟩
       rw [H.out]
       try simp only [Bool.not_eq_true', Bool.not_eq_false', decide_eq_true_eq, decide_eq_false_iff_not] at *
       by_cases hg : 2 ≤ gapM ⟨b, s, m, k, d, t, m', k', d', t'⟩ ∧ gapM ⟨b, s, m, k, d, t, m', k', d', t'⟩ ≤ 10
       ·first
         | (rw [if_pos ⟨H3.out, H4.out, hg⟩]; done)
         | (exfalso; unfold gapM at hg; dsimp only at hg; split at hg <;> omega)
       ·first
         | (rw [if_neg (fun h => hg h.2.2)]; done)
         | (exfalso; unfold gapM at hg; dsimp only at hg; split at hg <;> omega)
end Go.Proofs.YtfnifgppblbjhaaGreatDoor
namespace Go.Proofs.YtfnifgppblbjhaaGreatDoor
set_option maxHeartbeats 8000000
open Go Go.RowKit
set_option linter.unusedVariables false
set_option linter.unusedSimpArgs false
theorem zErr_b {z : Zn} (h : zErr z = 0) : -720 ≤ z.b ∧ z.b ≤ 840 := by
 unfold zErr at h
 split at h
 ·cases h
 ·omega
theorem sunAt_bd {f : Nat → Int} {n : Int} (hi : SunIn f) (hy : SunBy f) (h1 : 1 ≤ n) (h2 : n ≤ 3652059) : -5000 ≤ sunAt f n ∧ sunAt f n ≤ 5000 := by
 obtain ⟨my, mn⟩ := of_may h1 h2
 obtain ⟨y1, y2, m1, m2, _⟩ := may_in my
 have dm := dim_ok (okM_of my)
 have db := dim_bd (yOf n) (mOf n)
 obtain ⟨d1, d2⟩ := my
 unfold sunAt
 have i1 := hi (mOf n - 1).toNat (by omega)
 have i3 := hy (mOf n - 1).toNat (by omega)
 rw [show (mOf n - 1).toNat + 1 = (mOf n).toNat by omega] at i3
 generalize f (mOf n - 1).toNat = A at *
 generalize f ((mOf n).toNat % 12) = B at *
 have mb := mul_bd (x := B - A) (y := dOf n - 1) i3.2 i3.1 (by omega) (by omega)
 have q1 : -3600 ≤ (B - A) * (dOf n - 1) / dim (yOf n) (mOf n) := Int.le_ediv_of_mul_le (by omega) (by omega)
 have q2 : (B - A) * (dOf n - 1) / dim (yOf n) (mOf n) ≤ 3600 := Int.ediv_le_of_le_mul (by omega) (by omega)
 omega
def momV (z : Zn) (f : Nat → Int) (n : Int) : Int × Int :=
 if zErr z ≠ 0 then (0, zErr z) else if sunErr f ≠ 0 then (0, sunErr f) else if n < 401 ∨ 3651998 < n then (0, 72) else (n * 1440 + sunAt f n - z.b, 0)
theorem smoment_any (b s m k d t m' k' d' t' : Int) (f : Nat → Int) (n r1 r2 : Int) (w : World) (ht : Tab w) (hf : ∀ i, i < 12 → I64 (f i)) (hn : I64 n) (hr : momV ⟨b, s, m, k, d, t, m', k', d', t'⟩ f n = (r1, r2)) :
  Calls Tryz.prog 333 #[.agg #[.int .i64 b, .int .i64 s, .int .i64 m, .int .i64 k, .int .i64 d, .int .i64 t, .int .i64 m', .int .i64 k', .int .i64 d', .int .i64 t'], .agg (sunArr f), .int .i64 n] w fun e w' => e = .returned (.tuple #[.int .i64 r1, .int .i64 r2]) ∧ Below w.heap.size w w' := by
 have HR := Lib.hid hr
 clear hr
 have kz := (BlockIs.new w #[.int .i64 b, .int .i64 s, .int .i64 m, .int .i64 k, .int .i64 d, .int .i64 t, .int .i64 m', .int .i64 k', .int .i64 d', .int .i64 t'] 28).alloc (.cells (sunArr f) 30)
 have ks := BlockIs.new (w.alloc (.cells #[.int .i64 b, .int .i64 s, .int .i64 m, .int .i64 k, .int .i64 d, .int .i64 t, .int .i64 m', .int .i64 k', .int .i64 d', .int .i64 t'] 28)) (sunArr f) 30
 rw [World.size_alloc] at ks
 have hA := ((Below.refl w.heap.size w).alloc (Nat.le_refl _) (.cells #[.int .i64 b, .int .i64 s, .int .i64 m, .int .i64 k, .int .i64 d, .int .i64 t, .int .i64 m', .int .i64 k', .int .i64 d', .int .i64 t'] 28)).alloc (by simp) (.cells (sunArr f) 30)
 have ht1 := ht.below hA
 by_cases cz : zErr ⟨b, s, m, k, d, t, m', k', d', t'⟩ = 0
 ·have zb := zErr_b cz
  simp only at zb
  by_cases cs : sunErr f = 0
  ·rcases sunErr_cases f with ⟨_, hi, hy⟩ | c | c
   case inr.inl => omega
   case inr.inr => omega
   by_cases cn : n < 401 ∨ 3651998 < n
   ·have hq : momV ⟨b, s, m, k, d, t, m', k', d', t'⟩ f n = (0, 72) := by
     unfold momV; rw [if_neg (by omega), if_neg (by omega), if_pos cn]
    obtain ⟨e1, e2⟩ := Prod.mk.inj (HR.out.symm.trans hq)
    have E1 := Lib.hid e1
    have E2 := Lib.hid e2
    clear e1 e2 hq
    by_cases cd : n < 1 ∨ 3652059 < n
    ·unfold sunArr at kz ks ht1 hA ⊢
     go_enter Tryz.func333, Tryz.ntmps333
     go_wp2_with fail
     refine (zcheck_any _ _ _ _ _ _ _ _ _ _ 0 _ cz).mono ?_; rintro e w1 ⟨rfl, hb1⟩
     have hB1 := hA.trans (hb1.mono hA.size)
     obtain ⟨z0, z1, z2, z3, z4, z5, z6, z7, z8, z9, z10, z11⟩ := sun_cells (f := f) (ks.kept hb1)
     clear hb1
     go_wp2_with fail
     rw [sunArr_out]
     refine (sat_day f n _ cs cd hf).mono ?_; rintro e w2 ⟨rfl, hb2⟩
     have hB2 := Lib.hid (hB1.trans (hb2.mono hB1.size))
     clear hb2 hB1 z0 z1 z2 z3 z4 z5 z6 z7 z8 z9 z10 z11
     go_wp2_with fail
     go_ret2
     exact ⟨two E1.out.symm E2.out.symm, hB2.out⟩
    ·have h1 : 1 ≤ n := by omega
     have h2 : n ≤ 3652059 := by omega
     have cn' : n < 401 ∨ (401 ≤ n ∧ 3651998 < n) := by omega
     clear cn cd
     unfold sunArr at kz ks ht1 hA ⊢
     rcases cn' with cn | ⟨cn, cn'⟩
     all_goals
      go_enter Tryz.func333, Tryz.ntmps333
      go_wp2_with fail
      refine (zcheck_any _ _ _ _ _ _ _ _ _ _ 0 _ cz).mono ?_; rintro e w1 ⟨rfl, hb1⟩
      have hB1 := hA.trans (hb1.mono hA.size)
      have ht2 := ht1.below hb1
      obtain ⟨z0, z1, z2, z3, z4, z5, z6, z7, z8, z9, z10, z11⟩ := sun_cells (f := f) (ks.kept hb1)
      clear hb1
      go_wp2_with fail
      rw [sunArr_out]
      refine (sat_ok f n _ ht2 cs hi hy h1 h2 hf).mono ?_; rintro e w2 ⟨rfl, hb2⟩
      have hB2 := Lib.hid (hB1.trans (hb2.mono hB1.size))
      clear hb2 hB1 z0 z1 z2 z3 z4 z5 z6 z7 z8 z9 z10 z11
      go_wp2_with fail
      go_ret2
      exact ⟨two E1.out.symm E2.out.symm, hB2.out⟩
   ·have h1 : 401 ≤ n := by omega
    have h2 : n ≤ 3651998 := by omega
    have hq : momV ⟨b, s, m, k, d, t, m', k', d', t'⟩ f n = (n * 1440 + sunAt f n - b, 0) := by
     unfold momV; rw [if_neg (by omega), if_neg (by omega), if_neg cn]
    obtain ⟨e1, e2⟩ := Prod.mk.inj (HR.out.symm.trans hq)
    have E1 := Lib.hid e1
    have E2 := Lib.hid e2
    have sb := sunAt_bd hi hy (n := n) (by omega) (by omega)
    clear e1 e2 hq cn
    unfold sunArr at kz ks ht1 hA ⊢
    go_enter Tryz.func333, Tryz.ntmps333
    go_wp2_with fail
    refine (zcheck_any _ _ _ _ _ _ _ _ _ _ 0 _ cz).mono ?_; rintro e w1 ⟨rfl, hb1⟩
    have hB1 := hA.trans (hb1.mono hA.size)
    have ht2 := ht1.below hb1
    have kz1 := kz.kept hb1
    obtain ⟨z0, z1, z2, z3, z4, z5, z6, z7, z8, z9, z10, z11⟩ := sun_cells (f := f) (ks.kept hb1)
    clear hb1
    go_wp2_with fail
    rw [sunArr_out]
    refine (sat_ok f n _ ht2 cs hi hy (by omega) (by omega) hf).mono ?_; rintro e w2 ⟨rfl, hb2⟩
    have kz2 := kz1.kept hb2
    have hB2 := Lib.hid (hB1.trans (hb2.mono hB1.size))
    clear hb2 hB1 z0 z1 z2 z3 z4 z5 z6 z7 z8 z9 z10 z11
    have q0 : w2.cell? ⟨w.heap.size, 0, none⟩ = some (.int .i64 b) := kz2.cell rfl
    clear kz kz1 kz2 ks
    go_wp2_with fail
    go_ret2
    exact ⟨two E1.out.symm E2.out.symm, hB2.out⟩
  ·have hq : momV ⟨b, s, m, k, d, t, m', k', d', t'⟩ f n = (0, sunErr f) := by
    unfold momV; rw [if_neg (by omega), if_pos cs]
   obtain ⟨e1, e2⟩ := Prod.mk.inj (HR.out.symm.trans hq)
   have E1 := Lib.hid e1
   have E2 := Lib.hid e2
   clear e1 e2 hq
   have hne : (sunErr f != 0) = true := by simpa using cs
   have hne2 : (sunErr f == 0) = false := by simpa using cs
   unfold sunArr at kz ks ht1 hA ⊢
   go_enter Tryz.func333, Tryz.ntmps333
   go_wp2_with fail
   refine (zcheck_any _ _ _ _ _ _ _ _ _ _ 0 _ cz).mono ?_; rintro e w1 ⟨rfl, hb1⟩
   have hB1 := hA.trans (hb1.mono hA.size)
   obtain ⟨z0, z1, z2, z3, z4, z5, z6, z7, z8, z9, z10, z11⟩ := sun_cells (f := f) (ks.kept hb1)
   clear hb1
   go_wp2_with fail
   rw [sunArr_out]
   refine (sat_err f n (sunErr f) _ rfl cs hf).mono ?_; rintro e w2 ⟨rfl, hb2⟩
   have hB2 := Lib.hid (hB1.trans (hb2.mono hB1.size))
   clear hb2 hB1 z0 z1 z2 z3 z4 z5 z6 z7 z8 z9 z10 z11
   go_wp2_with fail
   go_ret2
   exact ⟨two E1.out.symm E2.out.symm, hB2.out⟩
 ·have hq : momV ⟨b, s, m, k, d, t, m', k', d', t'⟩ f n = (0, zErr ⟨b, s, m, k, d, t, m', k', d', t'⟩) := by
   unfold momV; rw [if_pos cz]
  obtain ⟨e1, e2⟩ := Prod.mk.inj (HR.out.symm.trans hq)
  have E1 := Lib.hid e1
  have E2 := Lib.hid e2
  clear e1 e2 hq
  generalize hE : zErr ⟨b, s, m, k, d, t, m', k', d', t'⟩ = E at *
  have hne : (E != 0) = true := by simpa using cz
  unfold sunArr at kz ks ht1 hA ⊢
  go_enter Tryz.func333, Tryz.ntmps333
  go_wp2_with fail
  refine (zcheck_any _ _ _ _ _ _ _ _ _ _ E _ hE).mono ?_; rintro e w1 ⟨rfl, hb1⟩
  have hB1 := Lib.hid (hA.trans (hb1.mono hA.size))
  clear hb1
  go_wp2_with fail
  go_ret2
  exact ⟨two E1.out.symm E2.out.symm, hB1.out⟩
end Go.Proofs.YtfnifgppblbjhaaGreatDoor
namespace Go.Proofs.YtfnifgppblbjhaaGreatDoor
set_option maxHeartbeats 8000000
open Go.RowKit
set_option linter.unusedVariables false
set_option linter.unusedSimpArgs false
theorem nth_bd {y m : Int} (w k : Int) (h : OkM y m) : 0 ≤ (nthV y m w k).1 ∧ (nthV y m w k).1 ≤ 3652200 := by
 have f := fst_bd h
 have g := hit_bd (w := w) h
 have d := dim_ok h
 have db := dim_bd y m
 unfold nthV
 rw [if_pos h]
 split
 ·split
  ·dsimp only
   unfold lastW
   omega
  ·split
   ·rename_i a _ c
    obtain ⟨_, _, a⟩ := a
    dsimp only
    omega
   ·simp
 ·simp
def wk (k : Int) : Int := if k = 5 then -1 else k
def whenV (b m k d t y : Int) : Int := (nthV y m d (wk k)).1 * 1440 + t - b
theorem zwhen_ok (b s m k d t m' k' d' t' xm xk xd xt y : Int) (w : World) (ht : Tab w) (hy1 : 1 ≤ y) (hy2 : y ≤ 9999) (hx : tOk xm xk xd xt = true) (hb1 : -720 ≤ b) (hb2 : b ≤ 840) :
  Calls Tryz.prog 235 #[.agg #[.int .i64 b, .int .i64 s, .int .i64 m, .int .i64 k, .int .i64 d, .int .i64 t, .int .i64 m', .int .i64 k', .int .i64 d', .int .i64 t'], .agg #[.int .i64 xm, .int .i64 xk, .int .i64 xd, .int .i64 xt], .int .i64 y] w fun e w' => e = .returned (.int .i64 (whenV b xm xk xd xt y)) ∧ Below w.heap.size w w' := by
 have ho := tOk_iff.1 hx
 have HX := Lib.hid hx
 clear hx
 have kz := (BlockIs.new w #[.int .i64 b, .int .i64 s, .int .i64 m, .int .i64 k, .int .i64 d, .int .i64 t, .int .i64 m', .int .i64 k', .int .i64 d', .int .i64 t'] 28).alloc (.cells #[.int .i64 xm, .int .i64 xk, .int .i64 xd, .int .i64 xt] 26)
 have kx := BlockIs.new (w.alloc (.cells #[.int .i64 b, .int .i64 s, .int .i64 m, .int .i64 k, .int .i64 d, .int .i64 t, .int .i64 m', .int .i64 k', .int .i64 d', .int .i64 t'] 28)) #[.int .i64 xm, .int .i64 xk, .int .i64 xd, .int .i64 xt] 26
 rw [World.size_alloc] at kx
 have hA := ((Below.refl w.heap.size w).alloc (Nat.le_refl _) (.cells #[.int .i64 b, .int .i64 s, .int .i64 m, .int .i64 k, .int .i64 d, .int .i64 t, .int .i64 m', .int .i64 k', .int .i64 d', .int .i64 t'] 28)).alloc (by simp) (.cells #[.int .i64 xm, .int .i64 xk, .int .i64 xd, .int .i64 xt] 26)
 have ht1 := ht.below hA
 have nb := nth_bd xd (wk xk) (y := y) (m := xm) ⟨hy1, hy2, ho.1, ho.2.1⟩
 by_cases c : xk = 5
 ·have hw := Lib.hid (show wk xk = -1 by unfold wk; rw [if_pos c])
  rw [hw.out] at nb
  have HV := Lib.hid (show whenV b xm xk xd xt y = (nthV y xm xd (-1)).1 * 1440 + xt - b by unfold whenV; rw [hw.out])
  have hc : (xk == 5) = true := beq_iff_eq.2 c
  clear c
  go_enter Tryz.func235, Tryz.ntmps235
  go_wp2_with fail
  refine (gnth_any _ _ _ _ _ ht1).mono ?_; rintro e w1 ⟨rfl, hb⟩
  have hB := Lib.hid (hA.trans (hb.mono hA.size))
  have q0 : w1.cell? ⟨w.heap.size, 0, none⟩ = some (.int .i64 b) := (kz.kept hb).cell rfl
  have q3 : w1.cell? ⟨w.heap.size + 1, 3, none⟩ = some (.int .i64 xt) := (kx.kept hb).cell rfl
  clear hb kz kx
  go_wp2
  go_ret
  exact ⟨one HV.out.symm, hB.out⟩
 ·have hw := Lib.hid (show wk xk = xk by unfold wk; rw [if_neg c])
  rw [hw.out] at nb
  have HV := Lib.hid (show whenV b xm xk xd xt y = (nthV y xm xd xk).1 * 1440 + xt - b by unfold whenV; rw [hw.out])
  have hc : (xk == 5) = false := beq_eq_false_iff_ne.2 c
  clear c
  go_enter Tryz.func235, Tryz.ntmps235
  go_wp2_with fail
  refine (gnth_any _ _ _ _ _ ht1).mono ?_; rintro e w1 ⟨rfl, hb⟩
  have hB := Lib.hid (hA.trans (hb.mono hA.size))
  have q0 : w1.cell? ⟨w.heap.size, 0, none⟩ = some (.int .i64 b) := (kz.kept hb).cell rfl
  have q3 : w1.cell? ⟨w.heap.size + 1, 3, none⟩ = some (.int .i64 xt) := (kx.kept hb).cell rfl
  clear hb kz kx
  go_wp2
  go_ret
  exact ⟨one HV.out.symm, hB.out⟩
def Tm (t : Int) : Prop := 560000 ≤ t ∧ t ≤ 5258900000
def shiftV (z : Zn) (u : Int) : Int :=
 if z.s = 0 then 0
 else if (whenV z.b z.m z.k z.d z.t (yOf ((u + z.b) / 1440)) < whenV z.b z.m' z.k' z.d' z.t' (yOf ((u + z.b) / 1440)) ∧ whenV z.b z.m z.k z.d z.t (yOf ((u + z.b) / 1440)) ≤ u ∧ u < whenV z.b z.m' z.k' z.d' z.t' (yOf ((u + z.b) / 1440))) ∨
   (whenV z.b z.m' z.k' z.d' z.t' (yOf ((u + z.b) / 1440)) < whenV z.b z.m z.k z.d z.t (yOf ((u + z.b) / 1440)) ∧ (u < whenV z.b z.m' z.k' z.d' z.t' (yOf ((u + z.b) / 1440)) ∨ whenV z.b z.m z.k z.d z.t (yOf ((u + z.b) / 1440)) ≤ u)) then z.s else 0
theorem keepZ {p q : Nat} {v0 v1 v2 v3 v4 v5 v6 v7 v8 v9 y : Value} {n : Nat} {w0 W w2 : World} (h : W.cell? ⟨p, 0, none⟩ = some v0 ∧ W.cell? ⟨p, 1, none⟩ = some v1 ∧ W.cell? ⟨p, 2, none⟩ = some v2 ∧ W.cell? ⟨p, 3, none⟩ = some v3 ∧ W.cell? ⟨p, 4, none⟩ = some v4 ∧ W.cell? ⟨p, 5, none⟩ = some v5 ∧ W.cell? ⟨p, 6, none⟩ = some v6 ∧ W.cell? ⟨p, 7, none⟩ = some v7 ∧ W.cell? ⟨p, 8, none⟩ = some v8 ∧ W.cell? ⟨p, 9, none⟩ = some v9 ∧ W.cell? ⟨q, 0, none⟩ = some y ∧ Below n w0 W) (hb : Below W.heap.size W w2) (hn : n ≤ w0.heap.size) :
  w2.cell? ⟨p, 0, none⟩ = some v0 ∧ w2.cell? ⟨p, 1, none⟩ = some v1 ∧ w2.cell? ⟨p, 2, none⟩ = some v2 ∧ w2.cell? ⟨p, 3, none⟩ = some v3 ∧ w2.cell? ⟨p, 4, none⟩ = some v4 ∧ w2.cell? ⟨p, 5, none⟩ = some v5 ∧ w2.cell? ⟨p, 6, none⟩ = some v6 ∧ w2.cell? ⟨p, 7, none⟩ = some v7 ∧ w2.cell? ⟨p, 8, none⟩ = some v8 ∧ w2.cell? ⟨p, 9, none⟩ = some v9 ∧ w2.cell? ⟨q, 0, none⟩ = some y ∧ Below n w0 w2 := by
 obtain ⟨h0, h1, h2, h3, h4, h5, h6, h7, h8, h9, hy, hB⟩ := h
 have hs := hB.size
 have g : ∀ {b o : Nat} {v : Value}, W.cell? ⟨b, o, none⟩ = some v → w2.cell? ⟨b, o, none⟩ = some v := fun {b o v} x => (hb.cell (p := ⟨b, o, none⟩) (World.block_lt_of_cell? W _ x)).trans x
 exact ⟨g h0, g h1, g h2, g h3, g h4, g h5, g h6, g h7, g h8, g h9, g hy, hB.trans (hb.mono (by omega))⟩
theorem belowZ {a0 a1 a2 a3 a4 a5 a6 a7 a8 a9 a10 a11 : Prop} (h : a0 ∧ a1 ∧ a2 ∧ a3 ∧ a4 ∧ a5 ∧ a6 ∧ a7 ∧ a8 ∧ a9 ∧ a10 ∧ a11) : a11 := h.2.2.2.2.2.2.2.2.2.2.2
theorem zshift_ok (b s m k d t m' k' d' t' u r : Int) (w : World) (ht : Tab w) (hu : Tm u) (hz : zErr ⟨b, s, m, k, d, t, m', k', d', t'⟩ = 0) (hb1 : -720 ≤ b) (hb2 : b ≤ 840) (h1 : s ≠ 0 → tOk m k d t = true) (h2 : s ≠ 0 → tOk m' k' d' t' = true) (hr : shiftV ⟨b, s, m, k, d, t, m', k', d', t'⟩ u = r) :
  Calls Tryz.prog 199 #[.agg #[.int .i64 b, .int .i64 s, .int .i64 m, .int .i64 k, .int .i64 d, .int .i64 t, .int .i64 m', .int .i64 k', .int .i64 d', .int .i64 t'], .int .i64 u] w fun e w' => e = .returned (.int .i64 r) ∧ Below w.heap.size w w' := by
 have HR := Lib.hid hr
 clear hr
 have hA := (Below.refl w.heap.size w).alloc (Nat.le_refl _) (.cells #[.int .i64 b, .int .i64 s, .int .i64 m, .int .i64 k, .int .i64 d, .int .i64 t, .int .i64 m', .int .i64 k', .int .i64 d', .int .i64 t'] 28)
 have kz := BlockIs.new w #[.int .i64 b, .int .i64 s, .int .i64 m, .int .i64 k, .int .i64 d, .int .i64 t, .int .i64 m', .int .i64 k', .int .i64 d', .int .i64 t'] 28
 by_cases c : s = 0
 ·have H := Lib.hid (HR.out.symm.trans (show shiftV ⟨b, s, m, k, d, t, m', k', d', t'⟩ u = 0 by unfold shiftV; rw [if_pos c]))
  have hc : (s == 0) = true := beq_iff_eq.2 c
  clear c h1 h2
  go_enter Tryz.func199, Tryz.ntmps199
  go_wp2_with fail
  go_ret
  exact ⟨one H.out.symm, hA⟩
 ·have o1 := Lib.hid (h1 c)
  have o2 := Lib.hid (h2 c)
  have hc : (s == 0) = false := beq_eq_false_iff_ne.2 c
  have ht1 := ht.below hA
  obtain ⟨u1, u2⟩ := hu
  have n1 : 1 ≤ (u + b) / 1440 := by omega
  have n2 : (u + b) / 1440 ≤ 3652059 := by omega
  have hyr := yr_of n1 n2
  clear h1 h2
  go_enter Tryz.func199, Tryz.ntmps199
  go_wp2_with fail
  refine (div_ok _ _ _ (by omega) (by unfold I64; omega)).mono ?_; rintro e w' ⟨rfl, rfl⟩
  go_wp2_with fail
  refine (gof_ok _ _ ht1 n1 n2).mono ?_; rintro e w1 ⟨rfl, hb⟩
  have hB1 := hA.trans (hb.mono hA.size)
  have hB2 := hB1.alloc hB1.size (.cells #[.int .i64 (yOf ((u + b) / 1440)), .int .i64 (mOf ((u + b) / 1440)), .int .i64 (dOf ((u + b) / 1440))] 323)
  have ht2 := (ht1.below hb).alloc (.cells #[.int .i64 (yOf ((u + b) / 1440)), .int .i64 (mOf ((u + b) / 1440)), .int .i64 (dOf ((u + b) / 1440))] 323)
  have kz2 := (kz.kept hb).alloc (.cells #[.int .i64 (yOf ((u + b) / 1440)), .int .i64 (mOf ((u + b) / 1440)), .int .i64 (dOf ((u + b) / 1440))] 323)
  have kd := BlockIs.new w1 #[.int .i64 (yOf ((u + b) / 1440)), .int .i64 (mOf ((u + b) / 1440)), .int .i64 (dOf ((u + b) / 1440))] 323
  clear hb hB1 kz
  go_wp2_with fail
  have H := Lib.hid (HR.out.symm.trans (show shiftV ⟨b, s, m, k, d, t, m', k', d', t'⟩ u = _ by unfold shiftV; rw [if_neg c]))
  dsimp only at H
  generalize yOf ((u + b) / 1440) = Y at *
  generalize (w1.alloc (.cells #[.int .i64 Y, .int .i64 (mOf ((u + b) / 1440)), .int .i64 (dOf ((u + b) / 1440))] 323)) = W0 at *
  have z0 : W0.cell? ⟨w.heap.size, 0, none⟩ = some (.int .i64 b) := kz2.cell rfl
  have z1 : W0.cell? ⟨w.heap.size, 1, none⟩ = some (.int .i64 s) := kz2.cell rfl
  have z2 : W0.cell? ⟨w.heap.size, 2, none⟩ = some (.int .i64 m) := kz2.cell rfl
  have z3 : W0.cell? ⟨w.heap.size, 3, none⟩ = some (.int .i64 k) := kz2.cell rfl
  have z4 : W0.cell? ⟨w.heap.size, 4, none⟩ = some (.int .i64 d) := kz2.cell rfl
  have z5 : W0.cell? ⟨w.heap.size, 5, none⟩ = some (.int .i64 t) := kz2.cell rfl
  have z6 : W0.cell? ⟨w.heap.size, 6, none⟩ = some (.int .i64 m') := kz2.cell rfl
  have z7 : W0.cell? ⟨w.heap.size, 7, none⟩ = some (.int .i64 k') := kz2.cell rfl
  have z8 : W0.cell? ⟨w.heap.size, 8, none⟩ = some (.int .i64 d') := kz2.cell rfl
  have z9 : W0.cell? ⟨w.heap.size, 9, none⟩ = some (.int .i64 t') := kz2.cell rfl
  have zy : W0.cell? ⟨w1.heap.size, 0, none⟩ = some (.int .i64 Y) := kd.cell rfl
  have HT := Lib.hid (show ∀ W', Below W0.heap.size W0 W' → Tab W' from fun W' h => ht2.below h)
  have HB := Lib.hid hB2
  clear hB2 ht2 kz2 kd HR hA ht1
  go_region_held3 (fun w' => w'.cell? ⟨w.heap.size, 0, none⟩ = some (.int .i64 b) ∧ w'.cell? ⟨w.heap.size, 1, none⟩ = some (.int .i64 s) ∧ w'.cell? ⟨w.heap.size, 2, none⟩ = some (.int .i64 m) ∧ w'.cell? ⟨w.heap.size, 3, none⟩ = some (.int .i64 k) ∧ w'.cell? ⟨w.heap.size, 4, none⟩ = some (.int .i64 d) ∧ w'.cell? ⟨w.heap.size, 5, none⟩ = some (.int .i64 t) ∧ w'.cell? ⟨w.heap.size, 6, none⟩ = some (.int .i64 m') ∧ w'.cell? ⟨w.heap.size, 7, none⟩ = some (.int .i64 k') ∧ w'.cell? ⟨w.heap.size, 8, none⟩ = some (.int .i64 d') ∧ w'.cell? ⟨w.heap.size, 9, none⟩ = some (.int .i64 t') ∧ w'.cell? ⟨w1.heap.size, 0, none⟩ = some (.int .i64 Y) ∧ Below W0.heap.size W0 w')
   (first
    | (exact ⟨z0, z1, z2, z3, z4, z5, z6, z7, z8, z9, zy, (Below.refl _ _).drew⟩)
    | assumption
    | (refine keepZ (by assumption) hb3 (Nat.le_refl _))
    | (refine keepZ (by assumption) hb4 (Nat.le_refl _))
    | go_keep)
   (first
    | (go_at_call 235; refine (zwhen_ok b s m k d t m' k' d' t' _ _ _ _ Y _ (by exact HT.out _ (belowZ (by assumption))) hyr.1 hyr.2.1 (by first | exact o1.out | exact o2.out) hb1 hb2).mono ?_; rintro e w3 ⟨rfl, hb3⟩))
  have hh : Below W0.heap.size W0 w3 := by exact belowZ (by assumption)
  have hB3 := Lib.hid (HB.out.trans (hh.mono HB.out.size))
  clear hh
  go_wp2
  all_goals
   go_ret
   refine ⟨one ?_, hB3.out⟩
   rw [H.out]
   split
   all_goals first
    | rfl
    | (exfalso; simp only [Bool.or_eq_true, Bool.and_eq_true, Bool.or_eq_false_iff, Bool.and_eq_false_iff, Bool.not_eq_true', Bool.not_eq_false', decide_eq_true_eq, decide_eq_false_iff_not] at *; omega)
    | (exfalso; omega)
end Go.Proofs.YtfnifgppblbjhaaGreatDoor
