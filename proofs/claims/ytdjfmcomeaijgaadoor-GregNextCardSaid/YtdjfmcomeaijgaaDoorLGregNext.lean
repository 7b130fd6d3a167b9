/- GregNext: the date of the next number is the next day of the month, or the first one of the next month, and its weekday is the next one: the walk. -/
import Derived.Test.YtdjfmcomeaijgaaDoorG4
namespace Go.Proofs.YtdjfmcomeaijgaaDoor
open Go.RowKit
set_option linter.unusedVariables false
set_option linter.unusedSimpArgs false

/-- The next number's date. -/
theorem next_date {n : Int} (h1 : 1 ≤ n) (h2 : n < 3652059) :
    (dOf n < dim (yOf n) (mOf n) ∧ yOf (n + 1) = yOf n ∧ mOf (n + 1) = mOf n ∧ dOf (n + 1) = dOf n + 1) ∨
    (dim (yOf n) (mOf n) ≤ dOf n ∧ mOf n < 12 ∧ yOf (n + 1) = yOf n ∧ mOf (n + 1) = mOf n + 1 ∧ dOf (n + 1) = 1) ∨
    (dim (yOf n) (mOf n) ≤ dOf n ∧ 12 ≤ mOf n ∧ yOf (n + 1) = yOf n + 1 ∧ mOf (n + 1) = 1 ∧ dOf (n + 1) = 1) := by
  obtain ⟨hm, hn⟩ := of_may h1 (by omega : n ≤ 3652059)
  obtain ⟨hm', hn'⟩ := of_may (n := n + 1) (by omega) (by omega)
  obtain ⟨y1, y2, m1, m2, _⟩ := may_in hm
  have hok := okM_of hm
  generalize yOf n = y at *
  generalize mOf n = m at *
  generalize dOf n = d at *
  by_cases c : d < dim y m
  · have hx : May y m (d + 1) := ⟨by have := hm.1; omega, by omega⟩
    have e : num y m (d + 1) = n + 1 := by unfold num at *; omega
    obtain ⟨a, b, c'⟩ := num_inj hm' hx (by rw [hn', e])
    exact .inl ⟨c, a, b, c'⟩
  · have hd : d = dim y m := by have := hm.2; omega
    have cs := cum_succ hok
    by_cases c2 : m < 12
    · have hx : May y (m + 1) 1 := may_one_of ⟨y1, y2, by omega, by omega⟩
      have e : num y (m + 1) 1 = n + 1 := by unfold num at *; omega
      obtain ⟨a, b, c'⟩ := num_inj hm' hx (by rw [hn', e])
      exact .inr (.inl ⟨by omega, c2, a, b, c'⟩)
    · have e12 : m = 12 := by omega
      have y3 : y < 9999 := by
        by_cases h : y = 9999
        · exfalso
          have c13 := cum_13 y
          subst e12
          have b1 := bef_succ y
          have e1 : bef 10000 = 3652059 := by decide
          rw [h] at b1 c13 cs hn hd
          rw [show (9999 : Int) + 1 = 10000 from rfl, e1] at b1
          unfold num at hn
          have : cum 9999 (12 + 1) = cum 9999 13 := rfl
          omega
        · omega
      have hx : May (y + 1) 1 1 := may_one_of ⟨by omega, by omega, by omega, by omega⟩
      have e : num (y + 1) 1 1 = n + 1 := by
        have c13 := cum_13 y
        have c1 := cum_one (y + 1)
        have b1 := bef_succ y
        subst e12
        have : cum y (12 + 1) = cum y 13 := rfl
        unfold num at *; omega
      obtain ⟨a, b, c'⟩ := num_inj hm' hx (by rw [hn', e])
      exact .inr (.inr ⟨by omega, by omega, a, b, c'⟩)
where
  may_one_of {y m : Int} (h : OkM y m) : May y m 1 := may_one h

set_option maxHeartbeats 2000000 in
theorem walk_GregNext (n : Int) (wn : (Lit.int .i64 n).wf = true) (w : World) (ht : Tab w) : Calls Tryd.prog 7 #[.int .i64 n] w fun e w' => e = .returned (.bool true) ∧ Below w.heap.size w w' := by
  by_cases h1 : n < 1
  · go_enter Tryd.func7, Tryd.ntmps7
    go_wp2_with fail
    refine (awake2 _ ht).mono ?_; rintro e w1 ⟨rfl, hb1⟩
    go_wp2
    go_ret
    exact ⟨rfl, hb1⟩
  by_cases h2 : 3652059 ≤ n
  · have h1 : 1 ≤ n := by omega
    go_enter Tryd.func7, Tryd.ntmps7
    go_wp2_with fail
    refine (awake2 _ ht).mono ?_; rintro e w1 ⟨rfl, hb1⟩
    go_wp2
    go_ret
    exact ⟨rfl, hb1⟩
  have h1 : 1 ≤ n := by omega
  have h2 : n < 3652059 := by omega
  have hw : ((n % 7 + 1) % 7 != (n + 1) % 7) = false := by first | (simp; done) | (simp; omega)
  have hx := next_date h1 h2
  have hm := (of_may h1 (by omega : n ≤ 3652059)).1
  have hb := may_in hm
  have hd := dim_bd (yOf n) (mOf n)
  obtain ⟨hm1, hm2⟩ := hm
  rcases hx with ⟨c, e1, e2, e3⟩ | ⟨c, c2, e1, e2, e3⟩ | ⟨c, c2, e1, e2, e3⟩
  · have E1 := Lib.hid e1
    have E2 := Lib.hid e2
    have E3 := Lib.hid e3
    clear e1 e2 e3
    go_enter Tryd.func7, Tryd.ntmps7
    go_wp2_with fail
    refine (gof_ok _ _ ht h1 (by omega)).mono ?_; rintro e w1 ⟨rfl, hb1⟩
    have ht1 := ht.below hb1
    have hz1 := hb1.size
    go_wp2_with fail
    refine (gof_ok _ _ (ht1.alloc _) (by omega) (by omega)).mono ?_; rintro e w2 ⟨rfl, hb2⟩
    rw [E1.out, E2.out, E3.out]
    have ht2 := ((ht1.alloc _).below hb2).alloc (.cells #[.int .i64 (yOf n), .int .i64 (mOf n), .int .i64 (dOf n + 1)] 23)
    have hz2 : w1.heap.size < w2.heap.size := by have := hb2.size; simp at this; omega
    have hB2 : Below w.heap.size w (w2.alloc (.cells #[.int .i64 (yOf n), .int .i64 (mOf n), .int .i64 (dOf n + 1)] 23)) := ((hb1.alloc hz1 _).trans (hb2.mono (by simp; omega))).alloc (by omega) _
    have bA : BlockIs (w2.alloc (.cells #[.int .i64 (yOf n), .int .i64 (mOf n), .int .i64 (dOf n + 1)] 23)) w1.heap.size #[.int .i64 (yOf n), .int .i64 (mOf n), .int .i64 (dOf n)] 23 := ((BlockIs.new w1 _ _).kept hb2).alloc _
    have bB : BlockIs (w2.alloc (.cells #[.int .i64 (yOf n), .int .i64 (mOf n), .int .i64 (dOf n + 1)] 23)) w2.heap.size #[.int .i64 (yOf n), .int .i64 (mOf n), .int .i64 (dOf n + 1)] 23 := BlockIs.new w2 _ _
    clear hb1 hb2 ht1
    go_wp2_with fail
    refine (weekday_any _ _ (by unfold I64; omega)).mono ?_; rintro e w' ⟨rfl, rfl⟩
    go_wp2_with fail
    refine (weekday_any _ _ (by unfold I64; omega)).mono ?_; rintro e w' ⟨rfl, rfl⟩
    go_wp2_with fail
    generalize w2.alloc (.cells #[.int .i64 (yOf n), .int .i64 (mOf n), .int .i64 (dOf n + 1)] 23) = W0 at *
    have a0 : W0.cell? ⟨w1.heap.size, 0, none⟩ = some (.int .i64 (yOf n)) := bA.cell rfl
    have a1 : W0.cell? ⟨w1.heap.size, 1, none⟩ = some (.int .i64 (mOf n)) := bA.cell rfl
    have a2 : W0.cell? ⟨w1.heap.size, 2, none⟩ = some (.int .i64 (dOf n)) := bA.cell rfl
    go_quiet ((go_at_call 24; exact quiet_left (gdays_any _ _ _ (Tab.drewN (by assumption) _))))
    clear a0 a1 a2
    go_wp2_with fail
    refine (awake2 _ (ht2.drewN _)).mono ?_; rintro e w3 ⟨rfl, hb3⟩
    have bA3 := (bA.drewN nq).kept hb3
    have bB3 := (bB.drewN nq).kept hb3
    have hB3 := Lib.hid (below_two (below_drewN hB2 nq) hb3)
    have a0 : w3.cell? ⟨w1.heap.size, 0, none⟩ = some (.int .i64 (yOf n)) := bA3.cell rfl
    have a1 : w3.cell? ⟨w1.heap.size, 1, none⟩ = some (.int .i64 (mOf n)) := bA3.cell rfl
    have a2 : w3.cell? ⟨w1.heap.size, 2, none⟩ = some (.int .i64 (dOf n)) := bA3.cell rfl
    have b0 : w3.cell? ⟨w2.heap.size, 0, none⟩ = some (.int .i64 (yOf n)) := bB3.cell rfl
    have b1 : w3.cell? ⟨w2.heap.size, 1, none⟩ = some (.int .i64 (mOf n)) := bB3.cell rfl
    have b2 : w3.cell? ⟨w2.heap.size, 2, none⟩ = some (.int .i64 (dOf n + 1)) := bB3.cell rfl
    clear hb3 bA3 bB3 bA bB hB2 ht2
    go_wp2
    go_ret
    exact ⟨rfl, hB3.out⟩
  · have E1 := Lib.hid e1
    have E2 := Lib.hid e2
    have E3 := Lib.hid e3
    clear e1 e2 e3
    go_enter Tryd.func7, Tryd.ntmps7
    go_wp2_with fail
    refine (gof_ok _ _ ht h1 (by omega)).mono ?_; rintro e w1 ⟨rfl, hb1⟩
    have ht1 := ht.below hb1
    have hz1 := hb1.size
    go_wp2_with fail
    refine (gof_ok _ _ (ht1.alloc _) (by omega) (by omega)).mono ?_; rintro e w2 ⟨rfl, hb2⟩
    rw [E1.out, E2.out, E3.out]
    have ht2 := ((ht1.alloc _).below hb2).alloc (.cells #[.int .i64 (yOf n), .int .i64 (mOf n + 1), .int .i64 (1)] 23)
    have hz2 : w1.heap.size < w2.heap.size := by have := hb2.size; simp at this; omega
    have hB2 : Below w.heap.size w (w2.alloc (.cells #[.int .i64 (yOf n), .int .i64 (mOf n + 1), .int .i64 (1)] 23)) := ((hb1.alloc hz1 _).trans (hb2.mono (by simp; omega))).alloc (by omega) _
    have bA : BlockIs (w2.alloc (.cells #[.int .i64 (yOf n), .int .i64 (mOf n + 1), .int .i64 (1)] 23)) w1.heap.size #[.int .i64 (yOf n), .int .i64 (mOf n), .int .i64 (dOf n)] 23 := ((BlockIs.new w1 _ _).kept hb2).alloc _
    have bB : BlockIs (w2.alloc (.cells #[.int .i64 (yOf n), .int .i64 (mOf n + 1), .int .i64 (1)] 23)) w2.heap.size #[.int .i64 (yOf n), .int .i64 (mOf n + 1), .int .i64 (1)] 23 := BlockIs.new w2 _ _
    clear hb1 hb2 ht1
    go_wp2_with fail
    refine (weekday_any _ _ (by unfold I64; omega)).mono ?_; rintro e w' ⟨rfl, rfl⟩
    go_wp2_with fail
    refine (weekday_any _ _ (by unfold I64; omega)).mono ?_; rintro e w' ⟨rfl, rfl⟩
    go_wp2_with fail
    generalize w2.alloc (.cells #[.int .i64 (yOf n), .int .i64 (mOf n + 1), .int .i64 (1)] 23) = W0 at *
    have a0 : W0.cell? ⟨w1.heap.size, 0, none⟩ = some (.int .i64 (yOf n)) := bA.cell rfl
    have a1 : W0.cell? ⟨w1.heap.size, 1, none⟩ = some (.int .i64 (mOf n)) := bA.cell rfl
    have a2 : W0.cell? ⟨w1.heap.size, 2, none⟩ = some (.int .i64 (dOf n)) := bA.cell rfl
    go_quiet ((go_at_call 24; exact quiet_left (gdays_any _ _ _ (Tab.drewN (by assumption) _))))
    go_wp2_with fail
    clear a0 a1 a2
    refine (awake2 _ (ht2.drewN _)).mono ?_; rintro e w3 ⟨rfl, hb3⟩
    have bA3 := (bA.drewN nq).kept hb3
    have bB3 := (bB.drewN nq).kept hb3
    have hB3 := Lib.hid (below_two (below_drewN hB2 nq) hb3)
    have a0 : w3.cell? ⟨w1.heap.size, 0, none⟩ = some (.int .i64 (yOf n)) := bA3.cell rfl
    have a1 : w3.cell? ⟨w1.heap.size, 1, none⟩ = some (.int .i64 (mOf n)) := bA3.cell rfl
    have a2 : w3.cell? ⟨w1.heap.size, 2, none⟩ = some (.int .i64 (dOf n)) := bA3.cell rfl
    have b0 : w3.cell? ⟨w2.heap.size, 0, none⟩ = some (.int .i64 (yOf n)) := bB3.cell rfl
    have b1 : w3.cell? ⟨w2.heap.size, 1, none⟩ = some (.int .i64 (mOf n + 1)) := bB3.cell rfl
    have b2 : w3.cell? ⟨w2.heap.size, 2, none⟩ = some (.int .i64 (1)) := bB3.cell rfl
    clear hb3 bA3 bB3 bA bB hB2 ht2
    go_wp2
    go_ret
    exact ⟨rfl, hB3.out⟩
  · have E1 := Lib.hid e1
    have E2 := Lib.hid e2
    have E3 := Lib.hid e3
    clear e1 e2 e3
    go_enter Tryd.func7, Tryd.ntmps7
    go_wp2_with fail
    refine (gof_ok _ _ ht h1 (by omega)).mono ?_; rintro e w1 ⟨rfl, hb1⟩
    have ht1 := ht.below hb1
    have hz1 := hb1.size
    go_wp2_with fail
    refine (gof_ok _ _ (ht1.alloc _) (by omega) (by omega)).mono ?_; rintro e w2 ⟨rfl, hb2⟩
    rw [E1.out, E2.out, E3.out]
    have ht2 := ((ht1.alloc _).below hb2).alloc (.cells #[.int .i64 (yOf n + 1), .int .i64 (1), .int .i64 (1)] 23)
    have hz2 : w1.heap.size < w2.heap.size := by have := hb2.size; simp at this; omega
    have hB2 : Below w.heap.size w (w2.alloc (.cells #[.int .i64 (yOf n + 1), .int .i64 (1), .int .i64 (1)] 23)) := ((hb1.alloc hz1 _).trans (hb2.mono (by simp; omega))).alloc (by omega) _
    have bA : BlockIs (w2.alloc (.cells #[.int .i64 (yOf n + 1), .int .i64 (1), .int .i64 (1)] 23)) w1.heap.size #[.int .i64 (yOf n), .int .i64 (mOf n), .int .i64 (dOf n)] 23 := ((BlockIs.new w1 _ _).kept hb2).alloc _
    have bB : BlockIs (w2.alloc (.cells #[.int .i64 (yOf n + 1), .int .i64 (1), .int .i64 (1)] 23)) w2.heap.size #[.int .i64 (yOf n + 1), .int .i64 (1), .int .i64 (1)] 23 := BlockIs.new w2 _ _
    clear hb1 hb2 ht1
    go_wp2_with fail
    refine (weekday_any _ _ (by unfold I64; omega)).mono ?_; rintro e w' ⟨rfl, rfl⟩
    go_wp2_with fail
    refine (weekday_any _ _ (by unfold I64; omega)).mono ?_; rintro e w' ⟨rfl, rfl⟩
    go_wp2_with fail
    generalize w2.alloc (.cells #[.int .i64 (yOf n + 1), .int .i64 (1), .int .i64 (1)] 23) = W0 at *
    have a0 : W0.cell? ⟨w1.heap.size, 0, none⟩ = some (.int .i64 (yOf n)) := bA.cell rfl
    have a1 : W0.cell? ⟨w1.heap.size, 1, none⟩ = some (.int .i64 (mOf n)) := bA.cell rfl
    have a2 : W0.cell? ⟨w1.heap.size, 2, none⟩ = some (.int .i64 (dOf n)) := bA.cell rfl
    go_quiet ((go_at_call 24; exact quiet_left (gdays_any _ _ _ (Tab.drewN (by assumption) _))))
    go_wp2_with fail
    clear a0 a1 a2
    refine (awake2 _ (ht2.drewN _)).mono ?_; rintro e w3 ⟨rfl, hb3⟩
    have bA3 := (bA.drewN nq).kept hb3
    have bB3 := (bB.drewN nq).kept hb3
    have hB3 := Lib.hid (below_two (below_drewN hB2 nq) hb3)
    have a0 : w3.cell? ⟨w1.heap.size, 0, none⟩ = some (.int .i64 (yOf n)) := bA3.cell rfl
    have a1 : w3.cell? ⟨w1.heap.size, 1, none⟩ = some (.int .i64 (mOf n)) := bA3.cell rfl
    have a2 : w3.cell? ⟨w1.heap.size, 2, none⟩ = some (.int .i64 (dOf n)) := bA3.cell rfl
    have b0 : w3.cell? ⟨w2.heap.size, 0, none⟩ = some (.int .i64 (yOf n + 1)) := bB3.cell rfl
    have b1 : w3.cell? ⟨w2.heap.size, 1, none⟩ = some (.int .i64 (1)) := bB3.cell rfl
    have b2 : w3.cell? ⟨w2.heap.size, 2, none⟩ = some (.int .i64 (1)) := bB3.cell rfl
    clear hb3 bA3 bB3 bA bB hB2 ht2
    go_wp2
    go_ret
    exact ⟨rfl, hB3.out⟩

end Go.Proofs.YtdjfmcomeaijgaaDoor
