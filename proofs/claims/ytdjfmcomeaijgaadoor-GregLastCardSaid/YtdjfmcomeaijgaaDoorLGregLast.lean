/- GregLast: the last one of a weekday is the fifth, if there is one, else the fourth; a week later it is another month: the walk. -/
import Derived.Test.YtdjfmcomeaijgaaDoorG4
namespace Go.Proofs.YtdjfmcomeaijgaaDoor
open Go.RowKit
set_option linter.unusedVariables false
set_option linter.unusedSimpArgs false

/-- A week behind the last one it is another month. -/
theorem week_later {y m n : Int} (h : OkM y m) (h1 : fst1 y m + dim y m ≤ n) (h2 : n ≤ fst1 y m + dim y m + 6) (h3 : n ≤ 3652059) : mOf n ≠ m := by
  intro e
  have hf := fst_bd h
  have hd := dim_bd y m
  obtain ⟨om, on⟩ := of_may (n := n) (by omega) h3
  obtain ⟨b1, b2, b3, b4, b5, b6, b7, b8⟩ := may_in om
  rw [on] at b5 b6 b7 b8
  rw [e] at b7 b8
  have cs := cum_succ h
  obtain ⟨y1, y2, m1, m2⟩ := h
  have f0 : fst1 y m = bef y + cum y m + 1 := rfl
  rcases Int.lt_trichotomy (yOf n) y with c | c | c
  · have := bef_le (a := yOf n + 1) (b := y) (by omega)
    have := cum_bd y (m := m) m1 (by omega)
    omega
  · rw [c] at b8; omega
  · have := bef_le (a := y + 1) (b := yOf n) (by omega)
    have s := bef_succ y
    have l := lp_01 y
    have l2 := lp_01 (yOf n)
    have hc : cum y m ≤ cum (yOf n) m + 1 := by unfold cum; split <;> omega
    omega

/-- What the three calls come to where the month and the weekday may be. -/
theorem last_cases {y m wd : Int} (h : OkM y m) (h1 : 0 ≤ wd) (h2 : wd ≤ 6) :
    nthV y m wd (-1) = (lastW y m wd, 0) ∧ nthV y m wd 4 = (hit1 y m wd + 21, 0) ∧ lastW y m wd % 7 = wd ∧
    ((nthV y m wd 5 = (hit1 y m wd + 28, 0) ∧ lastW y m wd = hit1 y m wd + 28) ∨
     (nthV y m wd 5 = (0, 22) ∧ lastW y m wd = hit1 y m wd + 21 ∧ fst1 y m + dim y m ≤ lastW y m wd + 7 ∧ lastW y m wd + 7 ≤ fst1 y m + dim y m + 6)) := by
  have hd := dim_ok h
  have hd2 := dim_bd y m
  have hh := hit_bd (w := wd) h
  have hg : hit1 y m wd % 7 = wd := gap_mod _ _ _ h1 (by omega)
  have n1 : OkN wd (-1) := ⟨h1, h2, .inl rfl⟩
  have n4 : OkN wd 4 := ⟨h1, h2, .inr ⟨by omega, by omega⟩⟩
  have n5 : OkN wd 5 := ⟨h1, h2, .inr ⟨by omega, by omega⟩⟩
  refine ⟨by unfold nthV; rw [if_pos h, if_pos n1, if_pos rfl], by unfold nthV; rw [if_pos h, if_pos n4, if_neg (by omega), if_pos (by omega)]; rfl, ?_, ?_⟩
  · unfold lastW; omega
  · by_cases c : hit1 y m wd + 28 < fst1 y m + dim y m
    · left
      refine ⟨by unfold nthV; rw [if_pos h, if_pos n5, if_neg (by omega), if_pos (by omega)]; rfl, ?_⟩
      unfold lastW; omega
    · right
      refine ⟨by unfold nthV; rw [if_pos h, if_pos n5, if_neg (by omega), if_neg (by omega)], ?_, ?_, ?_⟩ <;> unfold lastW <;> omega

set_option maxHeartbeats 2000000 in
theorem last_no (y m d wd c : Int) (w : World) (ht : Tab w) (hc : c = 20 ∨ c = 22) (e1 : nthV y m wd (-1) = (0, c)) (e2 : nthV y m wd 4 = (0, c)) (e3 : nthV y m wd 5 = (0, c)) :
    Calls Tryd.prog 9 #[.agg #[.int .i64 y, .int .i64 m, .int .i64 d], .int .i64 wd] w fun e w' => e = .returned (.bool true) ∧ Below w.heap.size w w' := by
  have hA := (Below.refl w.heap.size w).alloc (Nat.le_refl _) (.cells #[.int .i64 y, .int .i64 m, .int .i64 d] 23)
  have htA := ht.below hA
  have bA := BlockIs.new w #[.int .i64 y, .int .i64 m, .int .i64 d] 23
  have E1 := Lib.hid e1
  have E2 := Lib.hid e2
  have E3 := Lib.hid e3
  clear e1 e2 e3
  rcases hc with rfl | rfl
  all_goals
    go_enter Tryd.func9, Tryd.ntmps9
    go_wp2_with fail
    refine (gnth_any _ _ _ _ _ htA).mono ?_; rintro e w1 ⟨rfl, hb1⟩
    rw [E1.out]
    have ht1 := htA.below hb1
    have b1 := bA.kept hb1
    have c0 : w1.cell? ⟨w.heap.size, 0, none⟩ = some (.int .i64 y) := b1.cell rfl
    have c1 : w1.cell? ⟨w.heap.size, 1, none⟩ = some (.int .i64 m) := b1.cell rfl
    go_wp2_with fail
    refine (gnth_any _ _ _ _ _ ht1).mono ?_; rintro e w2 ⟨rfl, hb2⟩
    rw [E2.out]
    have ht2 := ht1.below hb2
    have b2 := b1.kept hb2
    clear c0 c1
    have c0 : w2.cell? ⟨w.heap.size, 0, none⟩ = some (.int .i64 y) := b2.cell rfl
    have c1 : w2.cell? ⟨w.heap.size, 1, none⟩ = some (.int .i64 m) := b2.cell rfl
    go_wp2_with fail
    refine (gnth_any _ _ _ _ _ ht2).mono ?_; rintro e w3 ⟨rfl, hb3⟩
    rw [E3.out]
    clear c0 c1
    go_wp2_with fail
    refine (awake2 _ (ht2.below hb3)).mono ?_; rintro e w4 ⟨rfl, hb4⟩
    have hB := Lib.hid (below_two (below_two (below_two (hA.trans (hb1.mono (by simp))) hb2) hb3) hb4)
    clear hb1 hb2 hb3 hb4 hA htA ht1 ht2 bA b1 b2
    go_wp2
    go_ret
    exact ⟨rfl, hB.out⟩

set_option maxHeartbeats 2000000 in
theorem last_five (y m d wd a : Int) (w : World) (ht : Tab w) (ha : 0 ≤ a) (ha2 : a ≤ 4000000) (e1 : nthV y m wd (-1) = (a + 28, 0)) (e2 : nthV y m wd 4 = (a + 21, 0)) (e3 : nthV y m wd 5 = (a + 28, 0)) :
    Calls Tryd.prog 9 #[.agg #[.int .i64 y, .int .i64 m, .int .i64 d], .int .i64 wd] w fun e w' => e = .returned (.bool true) ∧ Below w.heap.size w w' := by
  have hA := (Below.refl w.heap.size w).alloc (Nat.le_refl _) (.cells #[.int .i64 y, .int .i64 m, .int .i64 d] 23)
  have htA := ht.below hA
  have bA := BlockIs.new w #[.int .i64 y, .int .i64 m, .int .i64 d] 23
  have k7 : (a + 28 == a + 21 + 7) = true := by rw [beq_iff_eq]; omega
  have E1 := Lib.hid e1
  have E2 := Lib.hid e2
  have E3 := Lib.hid e3
  clear e1 e2 e3
  go_enter Tryd.func9, Tryd.ntmps9
  go_wp2_with fail
  refine (gnth_any _ _ _ _ _ htA).mono ?_; rintro e w1 ⟨rfl, hb1⟩
  rw [E1.out]
  have ht1 := htA.below hb1
  have b1 := bA.kept hb1
  have c0 : w1.cell? ⟨w.heap.size, 0, none⟩ = some (.int .i64 y) := b1.cell rfl
  have c1 : w1.cell? ⟨w.heap.size, 1, none⟩ = some (.int .i64 m) := b1.cell rfl
  go_wp2_with fail
  refine (gnth_any _ _ _ _ _ ht1).mono ?_; rintro e w2 ⟨rfl, hb2⟩
  rw [E2.out]
  have ht2 := ht1.below hb2
  have b2 := b1.kept hb2
  clear c0 c1
  have c0 : w2.cell? ⟨w.heap.size, 0, none⟩ = some (.int .i64 y) := b2.cell rfl
  have c1 : w2.cell? ⟨w.heap.size, 1, none⟩ = some (.int .i64 m) := b2.cell rfl
  go_wp2_with fail
  refine (gnth_any _ _ _ _ _ ht2).mono ?_; rintro e w3 ⟨rfl, hb3⟩
  rw [E3.out]
  clear c0 c1
  go_wp2_with fail
  refine (awake2 _ (ht2.below hb3)).mono ?_; rintro e w4 ⟨rfl, hb4⟩
  have hB := Lib.hid (below_two (below_two (below_two (hA.trans (hb1.mono (by simp))) hb2) hb3) hb4)
  clear hb1 hb2 hb3 hb4 hA htA ht1 ht2 bA b1 b2
  go_wp2
  go_ret
  exact ⟨rfl, hB.out⟩

set_option maxHeartbeats 2000000 in
theorem last_four (y m d wd a o0 o1 o2 h : Int) (w : World) (ht : Tab w) (ha : 0 ≤ a) (ha2 : a ≤ 4000000) (e1 : nthV y m wd (-1) = (a, 0)) (e2 : nthV y m wd 4 = (a, 0)) (e3 : nthV y m wd 5 = (0, 22))
    (e4 : ofV (a + 7) = (o0, o1, o2, h)) (hw : a % 7 = wd) (hk : (h = 0 ∧ o1 ≠ m) ∨ h = 21) :
    Calls Tryd.prog 9 #[.agg #[.int .i64 y, .int .i64 m, .int .i64 d], .int .i64 wd] w fun e w' => e = .returned (.bool true) ∧ Below w.heap.size w w' := by
  have hA := (Below.refl w.heap.size w).alloc (Nat.le_refl _) (.cells #[.int .i64 y, .int .i64 m, .int .i64 d] 23)
  have htA := ht.below hA
  have bA := BlockIs.new w #[.int .i64 y, .int .i64 m, .int .i64 d] 23
  have k7 : (a % 7 == wd) = true := by rw [beq_iff_eq]; exact hw
  have k8 : (h = 0 ∧ (o1 != m) = true) ∨ h = 21 := hk.imp (fun p => ⟨p.1, by rw [bne_iff_ne]; exact p.2⟩) id
  have E1 := Lib.hid e1
  have E2 := Lib.hid e2
  have E3 := Lib.hid e3
  have E4 := Lib.hid e4
  clear e1 e2 e3 e4 hw hk
  rcases k8 with ⟨rfl, k8⟩ | rfl
  all_goals
    go_enter Tryd.func9, Tryd.ntmps9
    go_wp2_with fail
    refine (gnth_any _ _ _ _ _ htA).mono ?_; rintro e w1 ⟨rfl, hb1⟩
    rw [E1.out]
    have ht1 := htA.below hb1
    have b1 := bA.kept hb1
    have c0 : w1.cell? ⟨w.heap.size, 0, none⟩ = some (.int .i64 y) := b1.cell rfl
    have c1 : w1.cell? ⟨w.heap.size, 1, none⟩ = some (.int .i64 m) := b1.cell rfl
    go_wp2_with fail
    refine (gnth_any _ _ _ _ _ ht1).mono ?_; rintro e w2 ⟨rfl, hb2⟩
    rw [E2.out]
    have ht2 := ht1.below hb2
    have b2 := b1.kept hb2
    clear c0 c1
    have c0 : w2.cell? ⟨w.heap.size, 0, none⟩ = some (.int .i64 y) := b2.cell rfl
    have c1 : w2.cell? ⟨w.heap.size, 1, none⟩ = some (.int .i64 m) := b2.cell rfl
    go_wp2_with fail
    refine (gnth_any _ _ _ _ _ ht2).mono ?_; rintro e w3 ⟨rfl, hb3⟩
    rw [E3.out]
    clear c0 c1
    have ht3 := ht2.below hb3
    have b3 := b2.kept hb3
    go_wp2_with fail
    refine (gof_any _ _ ht3).mono ?_; rintro e w4 ⟨rfl, hb4⟩
    rw [E4.out]
    have ht4 := (ht3.below hb4).alloc (.cells #[.int .i64 o0, .int .i64 o1, .int .i64 o2] 23)
    have b4 := (b3.kept hb4).alloc (.cells #[.int .i64 o0, .int .i64 o1, .int .i64 o2] 23)
    have d4 := BlockIs.new w4 #[.int .i64 o0, .int .i64 o1, .int .i64 o2] 23
    have hB4 := below_two (below_two (below_two (hA.trans (hb1.mono (by simp))) hb2) hb3) hb4
    have hB4 := hB4.alloc hB4.size (.cells #[.int .i64 o0, .int .i64 o1, .int .i64 o2] 23)
    clear hb1 hb2 hb3 hb4 hA htA ht1 ht2 bA b1 b2 b3 ht3
    go_wp2_with fail
    refine (awake2 _ ht4).mono ?_; rintro e w5 ⟨rfl, hb5⟩
    have b5 := b4.kept hb5
    have d5 := d4.kept hb5
    have c1 : w5.cell? ⟨w.heap.size, 1, none⟩ = some (.int .i64 m) := b5.cell rfl
    have c2 : w5.cell? ⟨w4.heap.size, 1, none⟩ = some (.int .i64 o1) := d5.cell rfl
    have hB := Lib.hid (hB4.trans (hb5.mono hB4.size))
    clear b4 d4 hB4 ht4 hb5 b5 d5
    go_wp2_with fail
    refine (weekday_any _ _ (by unfold I64; omega)).mono ?_; rintro e w' ⟨rfl, rfl⟩
    go_wp2
    go_ret
    exact ⟨rfl, hB.out⟩

theorem walk_GregLast (y m d wd : Int) (wy : (Lit.int .i64 y).wf = true) (wm : (Lit.int .i64 m).wf = true) (w0 : (Lit.int .i64 d).wf = true) (w1 : (Lit.int .i64 wd).wf = true) (w : World) (ht : Tab w) :
    Calls Tryd.prog 9 #[.agg #[.int .i64 y, .int .i64 m, .int .i64 d], .int .i64 wd] w fun e w' => e = .returned (.bool true) ∧ Below w.heap.size w w' := by
  by_cases h : OkM y m
  · by_cases h1 : 0 ≤ wd ∧ wd ≤ 6
    · obtain ⟨e1, e2, e3, e4⟩ := last_cases h h1.1 h1.2
      have hf := fst_bd h
      have hh := hit_bd (w := wd) h
      have hd := dim_bd y m
      rcases e4 with ⟨e4, e5⟩ | ⟨e4, e5, e6, e7⟩
      · rw [e5] at e1
        exact last_five y m d wd (hit1 y m wd) w ht (by omega) (by omega) e1 e2 e4
      · rw [e5] at e1 e3 e6 e7
        by_cases c : hit1 y m wd + 21 + 7 ≤ 3652059
        · exact last_four y m d wd (hit1 y m wd + 21) _ _ _ _ w ht (by omega) (by omega) e1 e2 e4 (by unfold ofV; rw [if_pos ⟨by omega, c⟩]) e3 (.inl ⟨rfl, week_later h e6 e7 c⟩)
        · exact last_four y m d wd (hit1 y m wd + 21) _ _ _ _ w ht (by omega) (by omega) e1 e2 e4 (by unfold ofV; rw [if_neg (by omega)]) e3 (.inr rfl)
    · have hk : ∀ k, nthV y m wd k = (0, 22) := fun k => by unfold nthV; rw [if_pos h, if_neg (fun q => h1 ⟨q.1, q.2.1⟩)]
      exact last_no y m d wd 22 w ht (.inr rfl) (hk _) (hk _) (hk _)
  · have hk : ∀ k, nthV y m wd k = (0, 20) := fun k => by unfold nthV; rw [if_neg h]
    exact last_no y m d wd 20 w ht (.inl rfl) (hk _) (hk _) (hk _)

end Go.Proofs.YtdjfmcomeaijgaaDoor
