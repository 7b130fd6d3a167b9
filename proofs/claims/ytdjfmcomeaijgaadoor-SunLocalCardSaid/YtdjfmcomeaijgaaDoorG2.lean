/- What Day, Of and Nth return, said of whole numbers. -/
import Derived.Test.YtdjfmcomeaijgaaDoorG1
import Derived.Deep.QuietTactic
import Derived.BigQuiet
namespace Go.Proofs.YtdjfmcomeaijgaaDoor
open Go.RowKit
set_option linter.unusedVariables false
set_option linter.unusedSimpArgs false

set_option maxHeartbeats 1000000 in
theorem gday_no (y m d : Int) (w : World) (ht : Tab w) (h : ¬ May y m d) : Calls Tryd.prog 21 #[.agg #[.int .i64 y, .int .i64 m, .int .i64 d]] w fun e w' => e = .returned (.tuple #[.int .i64 0, .int .i64 20]) ∧ Below w.heap.size w w' := by
  unfold May at h
  have hb := dim_bd y m
  by_cases h1 : d < 1
  · have h1d : decide (d < 1) = true := by simpa using h1
    clear h
    go_enter Tryd.func21, Tryd.ntmps21
    go_wp2_with fail
    go_quiet (fail)
    go_wp2
    go_ret2
    exact ⟨rfl, below_drewN ((Below.refl _ _).alloc (Nat.le_refl _) _) _⟩
  · have h2 : dim y m < d := by omega
    have h1d : decide (d < 1) = false := by simpa using h1
    have h1 : 1 ≤ d := by omega
    clear h
    have ht1 := ht.alloc (.cells #[.int .i64 y, .int .i64 m, .int .i64 d] 23)
    go_enter Tryd.func21, Tryd.ntmps21
    go_wp2_with fail
    go_quiet ((go_at_call 24; exact quiet_left (gdays_any _ _ _ (Tab.drewN (by assumption) _))))
    go_wp2
    go_ret2
    exact ⟨rfl, below_drewN ((Below.refl _ _).alloc (Nat.le_refl _) _) _⟩

theorem ahead_index (y m : Int) (h1 : 1 ≤ m) (h2 : m ≤ 12) : ∀ w, (Instr.index 67 (.agg (aheadArr y)) (.int .i64 (m - 1))).run Tryd.prog w = .ok (.int .i64 (cum y m)) w := by
  rcases months12 h1 h2 with e | e | e | e | e | e | e | e | e | e | e | e <;> subst e <;> intro w <;> kernel_rfl

set_option maxHeartbeats 2000000 in
theorem gday_ok (y m d : Int) (w : World) (ht : Tab w) (h : May y m d) : Calls Tryd.prog 21 #[.agg #[.int .i64 y, .int .i64 m, .int .i64 d]] w fun e w' => e = .returned (.tuple #[.int .i64 (num y m d), .int .i64 0]) ∧ Below w.heap.size w w' := by
  obtain ⟨y1, y2, m1, m2, _⟩ := may_in h
  obtain ⟨d1, d2⟩ := h
  have hb := dim_bd y m
  have h1d : decide (d < 1) = false := by simp; omega
  have ht1 := ht.alloc (.cells #[.int .i64 y, .int .i64 m, .int .i64 d] 23)
  go_enter Tryd.func21, Tryd.ntmps21
  go_wp2_with fail
  go_quiet ((go_at_call 24; exact quiet_left (gdays_any _ _ _ (Tab.drewN (by assumption) _))))
  go_wp2_with fail
  have hW0 : Below w.heap.size w ((w.alloc (.cells #[.int .i64 y, .int .i64 m, .int .i64 d] 23)).drewN nq) := below_drewN ((Below.refl _ _).alloc (Nat.le_refl _) _) _
  have hB0 : BlockIs ((w.alloc (.cells #[.int .i64 y, .int .i64 m, .int .i64 d] 23)).drewN nq) w.heap.size #[.int .i64 y, .int .i64 m, .int .i64 d] 23 := (BlockIs.new w _ _).drewN _
  generalize (w.alloc (.cells #[.int .i64 y, .int .i64 m, .int .i64 d] 23)).drewN nq = W0 at *
  have c0 : W0.cell? ⟨w.heap.size, 0, none⟩ = some (.int .i64 y) := hB0.cell rfl
  have c1 : W0.cell? ⟨w.heap.size, 1, none⟩ = some (.int .i64 m) := hB0.cell rfl
  have c2 : W0.cell? ⟨w.heap.size, 2, none⟩ = some (.int .i64 d) := hB0.cell rfl
  have hlt := hB0.lt
  have hix := ahead_index y m m1 m2
  have hbb := bef_bd y (by omega) (by omega)
  have hcb := cum_bd y (m := m) (by omega) (by omega)
  have e1 : IntKind.i64.wrap (m - 1) = m - 1 := IntWalk.i64_in _ ⟨by omega, by omega⟩
  have htW : Tab W0 := ht.below hW0
  have hS : ∀ W', Below W0.heap.size W0 W' → Tab W' := fun W' h => htW.below h
  have HS := Lib.hid hS
  have H0 := Lib.hid hW0
  clear hS hB0 hW0 ht1
  go_region_held3 (fun w' => w'.cell? ⟨w.heap.size, 0, none⟩ = some (.int .i64 y) ∧ w'.cell? ⟨w.heap.size, 1, none⟩ = some (.int .i64 m) ∧ w'.cell? ⟨w.heap.size, 2, none⟩ = some (.int .i64 d) ∧ Below W0.heap.size W0 w')
    (first
      | (exact ⟨c0, c1, c2, (Below.refl _ _).drew⟩)
      | assumption
      | (refine keep3 (by assumption) hb2 hlt (Nat.le_refl _))
      | go_keep)
    (first
      | (go_at_call 54; refine (gbefore_any _ _ y1 y2).mono ?_; rintro e w' ⟨rfl, rfl⟩)
      | (go_at_call 55; refine (gahead_any _ _ (by exact HS.out _ (And.right (And.right (And.right (by assumption))))) y1 y2).mono ?_; rintro e w2 ⟨rfl, hb2⟩))
  go_wp2
  go_ret2
  obtain ⟨_, _, _, hh⟩ := ‹_ ∧ _ ∧ _ ∧ Below _ _ w2›
  exact ⟨two (by rw [IntWalk.i64_in (bef y + cum y m) ⟨by omega, by omega⟩, IntWalk.i64_in _ ⟨by omega, by omega⟩]; rfl) rfl, H0.out.trans (hh.mono (by omega))⟩

set_option maxHeartbeats 1000000 in
theorem gof_no (n : Int) (w : World) (h : n < 1 ∨ 3652059 < n) : Calls Tryd.prog 31 #[.int .i64 n] w fun e w' => e = .returned (.tuple #[.agg #[.int .i64 0, .int .i64 0, .int .i64 0], .int .i64 21]) ∧ Below w.heap.size w w' := by
  by_cases h1 : n < 1
  · clear h
    go_enter Tryd.func31, Tryd.ntmps31
    go_wp2
    go_step3
    go_wp2
    try rw [Exit.noGoto_ret]
    refine bodyPost_ret (v := .tuple #[.agg #[.int .i64 0, .int .i64 0, .int .i64 0], .int .i64 21]) (by simp [results, Tryd.results31, go_sem]) rfl ⟨rfl, (Below.refl _ _).alloc (Nat.le_refl _) _⟩
  · have h2 : 3652059 < n := by omega
    clear h
    go_enter Tryd.func31, Tryd.ntmps31
    go_wp2
    go_step3
    go_wp2
    try rw [Exit.noGoto_ret]
    refine bodyPost_ret (v := .tuple #[.agg #[.int .i64 0, .int .i64 0, .int .i64 0], .int .i64 21]) (by simp [results, Tryd.results31, go_sem]) rfl ⟨rfl, (Below.refl _ _).alloc (Nat.le_refl _) _⟩

theorem ahead_at (y : Int) {M : Int} (h1 : 1 ≤ M) (h2 : M ≤ 13) : (aheadArr y)[M.toNat - 1]? = some (.int .i64 (cum y M)) := by
  have : M = 1 ∨ M = 2 ∨ M = 3 ∨ M = 4 ∨ M = 5 ∨ M = 6 ∨ M = 7 ∨ M = 8 ∨ M = 9 ∨ M = 10 ∨ M = 11 ∨ M = 12 ∨ M = 13 := by omega
  rcases this with e | e | e | e | e | e | e | e | e | e | e | e | e <;> subst e <;> first | rfl | (rw [cum_one]; rfl)
theorem ahead_at' (y : Int) {M : Int} (h1 : 1 ≤ M) (h2 : M ≤ 12) : (aheadArr y)[M.toNat]? = some (.int .i64 (cum y (M + 1))) := by
  have := ahead_at y (M := M + 1) (by omega) (by omega)
  rw [show (M + 1).toNat - 1 = M.toNat from by omega] at this
  exact this
theorem date_info : (Tryd.prog.info? 23).map (·.size) = some 3 := by kernel_rfl

set_option maxHeartbeats 2000000 in
theorem gof_way1 (n : Int) (w : World) (ht : Tab w) (h1 : 1 ≤ n) (h2 : n ≤ 3652059) (hA : 3 < (n - 1) % 146097 / 36524) : Calls Tryd.prog 31 #[.int .i64 n] w fun e w' => e = .returned (.tuple #[.agg #[.int .i64 (yOf n), .int .i64 (mOf n), .int .i64 (dOf n)], .int .i64 0]) ∧ Below w.heap.size w w' := by
    have hyr := yr_of h1 h2
    obtain ⟨e5, e4⟩ := of_way1 n hA
    have E5 := Lib.hid e5
    have E4 := Lib.hid e4
    clear e5 e4
    go_enter Tryd.func31, Tryd.ntmps31
    go_wp2_with fail
    go_step3
    go_wp2_with fail
    simp only [E5.out, E4.out]
    clear hA E5 E4
    refine (gahead_any (yOf n) _ (ht.alloc _) hyr.1 hyr.2.1).mono ?_
    rintro e w1 ⟨rfl, hb1⟩
    have q1 := Lib.hid (ahead_info (yOf n))
    have q2 := Lib.hid (show zeros13.size = (aheadArr (yOf n)).size from rfl)
    have q3 := Lib.hid (ahead_cells (yOf n))
    have q4 := Lib.hid (BlockIs.new w1 zeros13 67)
    have q5 := Lib.hid (q4.out.row (aheadArr (yOf n)))
    have hmf := mFrom_of hyr.2.2.2.1 hyr.2.2.2.2
    have hm : mFrom (yOf n) (rOf n) = mOf n := rfl
    rw [hm] at hmf
    have hsz : w.heap.size + 1 ≤ w1.heap.size := by have := hb1.size; simp at this; omega
    have hres : BlockIs w1 w.heap.size #[.int .i64 0, .int .i64 0, .int .i64 0] 23 := by
      have := (BlockIs.new w #[.int .i64 0, .int .i64 0, .int .i64 0] 23).kept hb1
      simpa using this
    have q6 := Lib.hid ((hres.alloc (.cells zeros13 67)).rowOther (b' := w1.heap.size) (by omega) (aheadArr (yOf n)))
    have q7 := Lib.hid (below_setRow (b := w1.heap.size) ((((Below.refl w.heap.size w).alloc (Nat.le_refl _) (.cells #[.int .i64 0, .int .i64 0, .int .i64 0] 23)).trans (hb1.mono (by simp))).alloc (by omega) (.cells zeros13 67)) (by omega) (aheadArr (yOf n)))
    clear hres hb1 hm
    go_wp2_with (first
        | (refine wpList_store_row (by rfl) _ _ _ (by rfl) w1.heap.size (aheadArr (yOf n)) (by rfl) (by rfl) _ _ q4.out q1.out q2.out q3.out ?_))
    have q8 : (w1.alloc (.cells #[.int .i64 0, .int .i64 0, .int .i64 0, .int .i64 0, .int .i64 0, .int .i64 0, .int .i64 0, .int .i64 0, .int .i64 0, .int .i64 0, .int .i64 0, .int .i64 0, .int .i64 0] 67)) = w1.alloc (.cells zeros13 67) := rfl
    rw [q8]
    clear q8
    clear q4 q1 q2 q3
    generalize (w1.alloc (.cells zeros13 67)).setRow w1.heap.size (aheadArr (yOf n)) = W2 at *
    go_step3
    go_wp2_with fail
    go_loop [9] (fun m => ∃ M : Int, 1 ≤ M ∧ M ≤ mOf n ∧ m = .int .i64 M) (fun m => (12 - intOf m).toNat)
    case atStart => exact ⟨1, by omega, by omega, rfl⟩
    case round =>
      obtain ⟨M, hM1, hM2, rfl⟩ := hrel
      have k1 := (q5.out).cell (ahead_at (yOf n) hM1 (by omega))
      have k2 := (q5.out).cell (ahead_at' (yOf n) hM1 (by omega))
      have hcb := cum_bd (yOf n) (m := M) hM1 (by omega)
      have hlp := lp_01 (yOf n)
      by_cases hlt : M < mOf n
      · have hle := cum_le (y := yOf n) (a := M + 1) (b := mOf n) ⟨hyr.1, hyr.2.1⟩ (by omega) (by omega) (by omega)
        go_wp2
        go_round
        case rel => exact ⟨M + 1, by omega, by omega, rfl⟩
        case measure => simp [intOf]; omega
      · have e : M = mOf n := by omega
        subst e
        by_cases h12 : mOf n < 12
        all_goals
          have b0 : W2.cell? ⟨w.heap.size, 0, none⟩ = some (.int .i64 0) := q6.out.cell rfl
          have b1 : W2.cell? ⟨w.heap.size, 1, none⟩ = some (.int .i64 0) := q6.out.cell rfl
          have b2 : W2.cell? ⟨w.heap.size, 2, none⟩ = some (.int .i64 0) := q6.out.cell rfl
          have f0 := q6.out.free 0
          have f1 := q6.out.free 1
          have f2 := q6.out.free 2
          go_wp2
          try simp only [Exit.noGoto_ret]
          refine bodyPost_ret (v := .tuple #[.agg #[.int .i64 (yOf n), .int .i64 (mOf n), .int .i64 (rOf n - cum (yOf n) (mOf n) + 1)], .int .i64 0]) (by simp [results, Tryd.results31, go_sem, b0, b1, b2]) (by rfl) ⟨by rfl, ((q7.out.setCell (Nat.le_refl _) _).setCell (Nat.le_refl _) _).setCell (Nat.le_refl _) _⟩

set_option maxHeartbeats 2000000 in
theorem gof_way2 (n : Int) (w : World) (ht : Tab w) (h1 : 1 ≤ n) (h2 : n ≤ 3652059) (hA : (n - 1) % 146097 / 36524 ≤ 3) (hB : 3 < ((n - 1) % 146097 - (n - 1) % 146097 / 36524 * 36524) % 1461 / 365) : Calls Tryd.prog 31 #[.int .i64 n] w fun e w' => e = .returned (.tuple #[.agg #[.int .i64 (yOf n), .int .i64 (mOf n), .int .i64 (dOf n)], .int .i64 0]) ∧ Below w.heap.size w w' := by
    have hyr := yr_of h1 h2
    obtain ⟨e5, e4⟩ := of_way2 n hA hB
    have E5 := Lib.hid e5
    have E4 := Lib.hid e4
    clear e5 e4
    go_enter Tryd.func31, Tryd.ntmps31
    go_wp2_with fail
    go_step3
    go_wp2_with fail
    simp only [E5.out, E4.out]
    clear hA hB E5 E4
    refine (gahead_any (yOf n) _ (ht.alloc _) hyr.1 hyr.2.1).mono ?_
    rintro e w1 ⟨rfl, hb1⟩
    have q1 := Lib.hid (ahead_info (yOf n))
    have q2 := Lib.hid (show zeros13.size = (aheadArr (yOf n)).size from rfl)
    have q3 := Lib.hid (ahead_cells (yOf n))
    have q4 := Lib.hid (BlockIs.new w1 zeros13 67)
    have q5 := Lib.hid (q4.out.row (aheadArr (yOf n)))
    have hmf := mFrom_of hyr.2.2.2.1 hyr.2.2.2.2
    have hm : mFrom (yOf n) (rOf n) = mOf n := rfl
    rw [hm] at hmf
    have hsz : w.heap.size + 1 ≤ w1.heap.size := by have := hb1.size; simp at this; omega
    have hres : BlockIs w1 w.heap.size #[.int .i64 0, .int .i64 0, .int .i64 0] 23 := by
      have := (BlockIs.new w #[.int .i64 0, .int .i64 0, .int .i64 0] 23).kept hb1
      simpa using this
    have q6 := Lib.hid ((hres.alloc (.cells zeros13 67)).rowOther (b' := w1.heap.size) (by omega) (aheadArr (yOf n)))
    have q7 := Lib.hid (below_setRow (b := w1.heap.size) ((((Below.refl w.heap.size w).alloc (Nat.le_refl _) (.cells #[.int .i64 0, .int .i64 0, .int .i64 0] 23)).trans (hb1.mono (by simp))).alloc (by omega) (.cells zeros13 67)) (by omega) (aheadArr (yOf n)))
    clear hres hb1 hm
    go_wp2_with (first
        | (refine wpList_store_row (by rfl) _ _ _ (by rfl) w1.heap.size (aheadArr (yOf n)) (by rfl) (by rfl) _ _ q4.out q1.out q2.out q3.out ?_))
    have q8 : (w1.alloc (.cells #[.int .i64 0, .int .i64 0, .int .i64 0, .int .i64 0, .int .i64 0, .int .i64 0, .int .i64 0, .int .i64 0, .int .i64 0, .int .i64 0, .int .i64 0, .int .i64 0, .int .i64 0] 67)) = w1.alloc (.cells zeros13 67) := rfl
    rw [q8]
    clear q8
    clear q4 q1 q2 q3
    generalize (w1.alloc (.cells zeros13 67)).setRow w1.heap.size (aheadArr (yOf n)) = W2 at *
    go_step3
    go_wp2_with fail
    go_loop [9] (fun m => ∃ M : Int, 1 ≤ M ∧ M ≤ mOf n ∧ m = .int .i64 M) (fun m => (12 - intOf m).toNat)
    case atStart => exact ⟨1, by omega, by omega, rfl⟩
    case round =>
      obtain ⟨M, hM1, hM2, rfl⟩ := hrel
      have k1 := (q5.out).cell (ahead_at (yOf n) hM1 (by omega))
      have k2 := (q5.out).cell (ahead_at' (yOf n) hM1 (by omega))
      have hcb := cum_bd (yOf n) (m := M) hM1 (by omega)
      have hlp := lp_01 (yOf n)
      by_cases hlt : M < mOf n
      · have hle := cum_le (y := yOf n) (a := M + 1) (b := mOf n) ⟨hyr.1, hyr.2.1⟩ (by omega) (by omega) (by omega)
        go_wp2
        go_round
        case rel => exact ⟨M + 1, by omega, by omega, rfl⟩
        case measure => simp [intOf]; omega
      · have e : M = mOf n := by omega
        subst e
        by_cases h12 : mOf n < 12
        all_goals
          have b0 : W2.cell? ⟨w.heap.size, 0, none⟩ = some (.int .i64 0) := q6.out.cell rfl
          have b1 : W2.cell? ⟨w.heap.size, 1, none⟩ = some (.int .i64 0) := q6.out.cell rfl
          have b2 : W2.cell? ⟨w.heap.size, 2, none⟩ = some (.int .i64 0) := q6.out.cell rfl
          have f0 := q6.out.free 0
          have f1 := q6.out.free 1
          have f2 := q6.out.free 2
          go_wp2
          try simp only [Exit.noGoto_ret]
          refine bodyPost_ret (v := .tuple #[.agg #[.int .i64 (yOf n), .int .i64 (mOf n), .int .i64 (rOf n - cum (yOf n) (mOf n) + 1)], .int .i64 0]) (by simp [results, Tryd.results31, go_sem, b0, b1, b2]) (by rfl) ⟨by rfl, ((q7.out.setCell (Nat.le_refl _) _).setCell (Nat.le_refl _) _).setCell (Nat.le_refl _) _⟩

set_option maxHeartbeats 2000000 in
theorem gof_way3 (n : Int) (w : World) (ht : Tab w) (h1 : 1 ≤ n) (h2 : n ≤ 3652059) (hA : (n - 1) % 146097 / 36524 ≤ 3) (hB : ((n - 1) % 146097 - (n - 1) % 146097 / 36524 * 36524) % 1461 / 365 ≤ 3) : Calls Tryd.prog 31 #[.int .i64 n] w fun e w' => e = .returned (.tuple #[.agg #[.int .i64 (yOf n), .int .i64 (mOf n), .int .i64 (dOf n)], .int .i64 0]) ∧ Below w.heap.size w w' := by
    have hyr := yr_of h1 h2
    obtain ⟨e5, e4⟩ := of_way3 n hA hB
    have E5 := Lib.hid e5
    have E4 := Lib.hid e4
    clear e5 e4
    go_enter Tryd.func31, Tryd.ntmps31
    go_wp2_with fail
    go_step3
    go_wp2_with fail
    simp only [E5.out, E4.out]
    clear hA hB E5 E4
    refine (gahead_any (yOf n) _ (ht.alloc _) hyr.1 hyr.2.1).mono ?_
    rintro e w1 ⟨rfl, hb1⟩
    have q1 := Lib.hid (ahead_info (yOf n))
    have q2 := Lib.hid (show zeros13.size = (aheadArr (yOf n)).size from rfl)
    have q3 := Lib.hid (ahead_cells (yOf n))
    have q4 := Lib.hid (BlockIs.new w1 zeros13 67)
    have q5 := Lib.hid (q4.out.row (aheadArr (yOf n)))
    have hmf := mFrom_of hyr.2.2.2.1 hyr.2.2.2.2
    have hm : mFrom (yOf n) (rOf n) = mOf n := rfl
    rw [hm] at hmf
    have hsz : w.heap.size + 1 ≤ w1.heap.size := by have := hb1.size; simp at this; omega
    have hres : BlockIs w1 w.heap.size #[.int .i64 0, .int .i64 0, .int .i64 0] 23 := by
      have := (BlockIs.new w #[.int .i64 0, .int .i64 0, .int .i64 0] 23).kept hb1
      simpa using this
    have q6 := Lib.hid ((hres.alloc (.cells zeros13 67)).rowOther (b' := w1.heap.size) (by omega) (aheadArr (yOf n)))
    have q7 := Lib.hid (below_setRow (b := w1.heap.size) ((((Below.refl w.heap.size w).alloc (Nat.le_refl _) (.cells #[.int .i64 0, .int .i64 0, .int .i64 0] 23)).trans (hb1.mono (by simp))).alloc (by omega) (.cells zeros13 67)) (by omega) (aheadArr (yOf n)))
    clear hres hb1 hm
    go_wp2_with (first
        | (refine wpList_store_row (by rfl) _ _ _ (by rfl) w1.heap.size (aheadArr (yOf n)) (by rfl) (by rfl) _ _ q4.out q1.out q2.out q3.out ?_))
    have q8 : (w1.alloc (.cells #[.int .i64 0, .int .i64 0, .int .i64 0, .int .i64 0, .int .i64 0, .int .i64 0, .int .i64 0, .int .i64 0, .int .i64 0, .int .i64 0, .int .i64 0, .int .i64 0, .int .i64 0] 67)) = w1.alloc (.cells zeros13 67) := rfl
    rw [q8]
    clear q8
    clear q4 q1 q2 q3
    generalize (w1.alloc (.cells zeros13 67)).setRow w1.heap.size (aheadArr (yOf n)) = W2 at *
    go_step3
    go_wp2_with fail
    go_loop [9] (fun m => ∃ M : Int, 1 ≤ M ∧ M ≤ mOf n ∧ m = .int .i64 M) (fun m => (12 - intOf m).toNat)
    case atStart => exact ⟨1, by omega, by omega, rfl⟩
    case round =>
      obtain ⟨M, hM1, hM2, rfl⟩ := hrel
      have k1 := (q5.out).cell (ahead_at (yOf n) hM1 (by omega))
      have k2 := (q5.out).cell (ahead_at' (yOf n) hM1 (by omega))
      have hcb := cum_bd (yOf n) (m := M) hM1 (by omega)
      have hlp := lp_01 (yOf n)
      by_cases hlt : M < mOf n
      · have hle := cum_le (y := yOf n) (a := M + 1) (b := mOf n) ⟨hyr.1, hyr.2.1⟩ (by omega) (by omega) (by omega)
        go_wp2
        go_round
        case rel => exact ⟨M + 1, by omega, by omega, rfl⟩
        case measure => simp [intOf]; omega
      · have e : M = mOf n := by omega
        subst e
        by_cases h12 : mOf n < 12
        all_goals
          have b0 : W2.cell? ⟨w.heap.size, 0, none⟩ = some (.int .i64 0) := q6.out.cell rfl
          have b1 : W2.cell? ⟨w.heap.size, 1, none⟩ = some (.int .i64 0) := q6.out.cell rfl
          have b2 : W2.cell? ⟨w.heap.size, 2, none⟩ = some (.int .i64 0) := q6.out.cell rfl
          have f0 := q6.out.free 0
          have f1 := q6.out.free 1
          have f2 := q6.out.free 2
          go_wp2
          try simp only [Exit.noGoto_ret]
          refine bodyPost_ret (v := .tuple #[.agg #[.int .i64 (yOf n), .int .i64 (mOf n), .int .i64 (rOf n - cum (yOf n) (mOf n) + 1)], .int .i64 0]) (by simp [results, Tryd.results31, go_sem, b0, b1, b2]) (by rfl) ⟨by rfl, ((q7.out.setCell (Nat.le_refl _) _).setCell (Nat.le_refl _) _).setCell (Nat.le_refl _) _⟩

theorem gof_ok (n : Int) (w : World) (ht : Tab w) (h1 : 1 ≤ n) (h2 : n ≤ 3652059) : Calls Tryd.prog 31 #[.int .i64 n] w fun e w' => e = .returned (.tuple #[.agg #[.int .i64 (yOf n), .int .i64 (mOf n), .int .i64 (dOf n)], .int .i64 0]) ∧ Below w.heap.size w w' := by
  by_cases hA : (n - 1) % 146097 / 36524 ≤ 3
  · by_cases hB : ((n - 1) % 146097 - (n - 1) % 146097 / 36524 * 36524) % 1461 / 365 ≤ 3
    · exact gof_way3 n w ht h1 h2 hA hB
    · exact gof_way2 n w ht h1 h2 hA (by omega)
  · exact gof_way1 n w ht h1 h2 (by omega)

end Go.Proofs.YtdjfmcomeaijgaaDoor
