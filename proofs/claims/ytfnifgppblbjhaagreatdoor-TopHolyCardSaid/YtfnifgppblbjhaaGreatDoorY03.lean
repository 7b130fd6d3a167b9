/- Part of the proof of TopHoly. -/
import Derived.Test.YtfnifgppblbjhaaGreatDoorY02
import Derived.BigQuiet
import Derived.Deep.QuietTactic
import Derived.LoopIn
import Derived.LoopNIn
import Derived.Orders
import Derived.OwnWalkIn
import Derived.RangeFuncBound
import Derived.RangeFuncCalls
import Derived.RangeFuncFrom
import Derived.RangeFuncLeaves
import Derived.RangeFuncNested
import Derived.Shelf.Abstract
import Derived.Shelf.RegionOpen
import Derived.TacticsInMore
import Derived.WalkKit
namespace Go.Proofs.YtfnifgppblbjhaaGreatDoor
set_option maxHeartbeats 8000000
open Go.RowKit
set_option linter.unusedVariables false
set_option linter.unusedSimpArgs false
theorem ahead_index (y m : Int) (h1 : 1 ≤ m) (h2 : m ≤ 12) : ∀ w, (Instr.index 370 (.agg (aheadArr y)) (.int .i64 (m - 1))).run Tryz.prog w = .ok (.int .i64 (cum y m)) w := by
 rcases months12 h1 h2 with e | e | e | e | e | e | e | e | e | e | e | e <;> subst e <;> intro w <;> kernel_rfl
theorem gday_ok (y m d : Int) (w : World) (ht : Tab w) (h : May y m d) : Calls Tryz.prog 266 #[.agg #[.int .i64 y, .int .i64 m, .int .i64 d]] w fun e w' => e = .returned (.tuple #[.int .i64 (num y m d), .int .i64 0]) ∧ Below w.heap.size w w' := by
 obtain ⟨y1, y2, m1, m2, _⟩ := may_in h
 obtain ⟨d1, d2⟩ := h
 have hb := dim_bd y m
 have h1d : decide (d < 1) = false := by simp; omega
 have ht1 := ht.alloc (.cells #[.int .i64 y, .int .i64 m, .int .i64 d] 323)
 go_enter Tryz.func266, Tryz.ntmps266
 go_wp2_with fail
 go_quiet ((go_at_call 252; exact quiet_left (gdays_any _ _ _ (Tab.drewN (by assumption) _))))
 go_wp2_with fail
 have hW0 : Below w.heap.size w ((w.alloc (.cells #[.int .i64 y, .int .i64 m, .int .i64 d] 323)).drewN nq) := below_drewN ((Below.refl _ _).alloc (Nat.le_refl _) _) _
 have hB0 : BlockIs ((w.alloc (.cells #[.int .i64 y, .int .i64 m, .int .i64 d] 323)).drewN nq) w.heap.size #[.int .i64 y, .int .i64 m, .int .i64 d] 323 := (BlockIs.new w _ _).drewN _
 generalize (w.alloc (.cells #[.int .i64 y, .int .i64 m, .int .i64 d] 323)).drewN nq = W0 at *
 have c0 : W0.cell? ⟨w.heap.size, 0, none⟩ = some (.int .i64 y) := hB0.cell rfl
 have c1 : W0.cell? ⟨w.heap.size, 1, none⟩ = some (.int .i64 m) := hB0.cell rfl
 have c2 : W0.cell? ⟨w.heap.size, 2, none⟩ = some (.int .i64 d) := hB0.cell rfl
 have hlt := hB0.lt
 have hix := ahead_index y m m1 m2
 have hbb := bef_bd y (by omega) (by omega)
 have hcb := cum_bd y (m := m) (by omega) (by omega)
 have e1 : IntKind.i64.wrap (m - 1) = m - 1 := IntWalk.i64_in _ ⟨by omega, by omega⟩
 have htW : Tab W0 := ht.below hW0
 have hS : ∀ W', Below W0.heap.size W0 W' → Tab W' := fun W' h => htW.below h
 have HS := Lib.hid hS
 have H0 := Lib.hid hW0
 clear hS hB0 hW0 ht1
 go_region_held3 (fun w' => w'.cell? ⟨w.heap.size, 0, none⟩ = some (.int .i64 y) ∧ w'.cell? ⟨w.heap.size, 1, none⟩ = some (.int .i64 m) ∧ w'.cell? ⟨w.heap.size, 2, none⟩ = some (.int .i64 d) ∧ Below W0.heap.size W0 w')
  (first
   | (exact ⟨c0, c1, c2, (Below.refl _ _).drew⟩)
   | assumption
   | (refine keep3 (by assumption) hb2 hlt (Nat.le_refl _))
   | go_keep)
  (first
   | (go_at_call 272; refine (gbefore_any _ _ y1 y2).mono ?_; rintro e w' ⟨rfl, rfl⟩)
   | (go_at_call 234; refine (gahead_any _ _ (by exact HS.out _ (And.right (And.right (And.right (by assumption))))) y1 y2).mono ?_; rintro e w2 ⟨rfl, hb2⟩))
 go_wp2
 go_ret2
 obtain ⟨_, _, _, hh⟩ := ‹_ ∧ _ ∧ _ ∧ Below _ _ w2›
 exact ⟨two (by rw [IntWalk.i64_in (bef y + cum y m) ⟨by omega, by omega⟩, IntWalk.i64_in _ ⟨by omega, by omega⟩]; rfl) rfl, H0.out.trans (hh.mono (by omega))⟩
theorem gof_no (n : Int) (w : World) (h : n < 1 ∨ 3652059 < n) : Calls Tryz.prog 197 #[.int .i64 n] w fun e w' => e = .returned (.tuple #[.agg #[.int .i64 0, .int .i64 0, .int .i64 0], .int .i64 21]) ∧ Below w.heap.size w w' := by
 by_cases h1 : n < 1
 ·clear h
  go_enter Tryz.func197, Tryz.ntmps197
  go_wp2
  go_step3
  go_wp2
  try rw [Exit.noGoto_ret]
  refine bodyPost_ret (v := .tuple #[.agg #[.int .i64 0, .int .i64 0, .int .i64 0], .int .i64 21]) (by simp [results, Tryz.results197, go_sem]) rfl ⟨rfl, (Below.refl _ _).alloc (Nat.le_refl _) _⟩
 ·have h2 : 3652059 < n := by omega
  clear h
  go_enter Tryz.func197, Tryz.ntmps197
  go_wp2
  go_step3
  go_wp2
  try rw [Exit.noGoto_ret]
  refine bodyPost_ret (v := .tuple #[.agg #[.int .i64 0, .int .i64 0, .int .i64 0], .int .i64 21]) (by simp [results, Tryz.results197, go_sem]) rfl ⟨rfl, (Below.refl _ _).alloc (Nat.le_refl _) _⟩
theorem ahead_at (y : Int) {M : Int} (h1 : 1 ≤ M) (h2 : M ≤ 13) : (aheadArr y)[M.toNat - 1]? = some (.int .i64 (cum y M)) := by
 have : M = 1 ∨ M = 2 ∨ M = 3 ∨ M = 4 ∨ M = 5 ∨ M = 6 ∨ M = 7 ∨ M = 8 ∨ M = 9 ∨ M = 10 ∨ M = 11 ∨ M = 12 ∨ M = 13 := by omega
 rcases this with e | e | e | e | e | e | e | e | e | e | e | e | e <;> subst e <;> first | rfl | (rw [cum_one]; rfl)
theorem ahead_at' (y : Int) {M : Int} (h1 : 1 ≤ M) (h2 : M ≤ 12) : (aheadArr y)[M.toNat]? = some (.int .i64 (cum y (M + 1))) := by
 have := ahead_at y (M := M + 1) (by omega) (by omega)
 rw [show (M + 1).toNat - 1 = M.toNat from by omega] at this
 exact this
theorem gof_way1 (n : Int) (w : World) (ht : Tab w) (h1 : 1 ≤ n) (h2 : n ≤ 3652059) (hA : 3 < (n - 1) % 146097 / 36524) : Calls Tryz.prog 197 #[.int .i64 n] w fun e w' => e = .returned (.tuple #[.agg #[.int .i64 (yOf n), .int .i64 (mOf n), .int .i64 (dOf n)], .int .i64 0]) ∧ Below w.heap.size w w' := by
  have hyr := yr_of h1 h2
  obtain ⟨e5, e4⟩ := of_way1 n hA
  have E5 := Lib.hid e5
  have E4 := Lib.hid e4
  clear e5 e4
  go_enter Tryz.func197, Tryz.ntmps197
  go_wp2_with fail
  go_step3
  go_wp2_with fail
  simp only [E5.out, E4.out]
  clear hA E5 E4
  refine (gahead_any (yOf n) _ (ht.alloc _) hyr.1 hyr.2.1).mono ?_
  rintro e w1 ⟨rfl, hb1⟩
  have q1 := Lib.hid (ahead_info (yOf n))
  have q2 := Lib.hid (show zeros13.size = (aheadArr (yOf n)).size from rfl)
  have q3 := Lib.hid (ahead_cells (yOf n))
  have q4 := Lib.hid (BlockIs.new w1 zeros13 370)
  have q5 := Lib.hid (q4.out.row (aheadArr (yOf n)))
  have hmf := mFrom_of hyr.2.2.2.1 hyr.2.2.2.2
  have hm : mFrom (yOf n) (rOf n) = mOf n := rfl
  rw [hm] at hmf
  have hsz : w.heap.size + 1 ≤ w1.heap.size := by have := hb1.size; simp at this; omega
  have hres : BlockIs w1 w.heap.size #[.int .i64 0, .int .i64 0, .int .i64 0] 323 := by
   have := (BlockIs.new w #[.int .i64 0, .int .i64 0, .int .i64 0] 323).kept hb1
   simpa using this
  have q6 := Lib.hid ((hres.alloc (.cells zeros13 370)).rowOther (b' := w1.heap.size) (by omega) (aheadArr (yOf n)))
  have q7 := Lib.hid (below_setRow (b := w1.heap.size) ((((Below.refl w.heap.size w).alloc (Nat.le_refl _) (.cells #[.int .i64 0, .int .i64 0, .int .i64 0] 323)).trans (hb1.mono (by simp))).alloc (by omega) (.cells zeros13 370)) (by omega) (aheadArr (yOf n)))
  clear hres hb1 hm
  go_wp2_with (first
    | (refine wpList_store_row (by rfl) _ _ _ (by rfl) w1.heap.size (aheadArr (yOf n)) (by rfl) (by rfl) _ _ q4.out q1.out q2.out q3.out ?_))
  have q8 : (w1.alloc (.cells #[.int .i64 0, .int .i64 0, .int .i64 0, .int .i64 0, .int .i64 0, .int .i64 0, .int .i64 0, .int .i64 0, .int .i64 0, .int .i64 0, .int .i64 0, .int .i64 0, .int .i64 0] 370)) = w1.alloc (.cells zeros13 370) := rfl
  rw [q8]
  clear q8
  clear q4 q1 q2 q3
  generalize (w1.alloc (.cells zeros13 370)).setRow w1.heap.size (aheadArr (yOf n)) = W2 at *
  go_step3
  go_wp2_with fail
  go_loop [9] (fun m => ∃ M : Int, 1 ≤ M ∧ M ≤ mOf n ∧ m = .int .i64 M) (fun m => (12 - intOf m).toNat)
  case atStart => exact ⟨1, by omega, by omega, rfl⟩
  case round =>
   obtain ⟨M, hM1, hM2, rfl⟩ := hrel
   have k1 := (q5.out).cell (ahead_at (yOf n) hM1 (by omega))
   have k2 := (q5.out).cell (ahead_at' (yOf n) hM1 (by omega))
   have hcb := cum_bd (yOf n) (m := M) hM1 (by omega)
   have hlp := lp_01 (yOf n)
   by_cases hlt : M < mOf n
   ·have hle := cum_le (y := yOf n) (a := M + 1) (b := mOf n) ⟨hyr.1, hyr.2.1⟩ (by omega) (by omega) (by omega)
    go_wp2
    go_round
    case rel => exact ⟨M + 1, by omega, by omega, rfl⟩
    case measure => simp [intOf]; omega
   ·have e : M = mOf n := by omega
    subst e
    by_cases h12 : mOf n < 12
    all_goals
     have b0 : W2.cell? ⟨w.heap.size, 0, none⟩ = some (.int .i64 0) := q6.out.cell rfl
     have b1 : W2.cell? ⟨w.heap.size, 1, none⟩ = some (.int .i64 0) := q6.out.cell rfl
     have b2 : W2.cell? ⟨w.heap.size, 2, none⟩ = some (.int .i64 0) := q6.out.cell rfl
     have f0 := q6.out.free 0
     have f1 := q6.out.free 1
     have f2 := q6.out.free 2
     go_wp2
     try simp only [Exit.noGoto_ret]
     refine bodyPost_ret (v := .tuple #[.agg #[.int .i64 (yOf n), .int .i64 (mOf n), .int .i64 (rOf n - cum (yOf n) (mOf n) + 1)], .int .i64 0]) (by simp [results, Tryz.results197, go_sem, b0, b1, b2]) (by rfl) ⟨by rfl, ((q7.out.setCell (Nat.le_refl _) _).setCell (Nat.le_refl _) _).setCell (Nat.le_refl _) _⟩
theorem gof_way2 (n : Int) (w : World) (ht : Tab w) (h1 : 1 ≤ n) (h2 : n ≤ 3652059) (hA : (n - 1) % 146097 / 36524 ≤ 3) (hB : 3 < ((n - 1) % 146097 - (n - 1) % 146097 / 36524 * 36524) % 1461 / 365) : Calls Tryz.prog 197 #[.int .i64 n] w fun e w' => e = .returned (.tuple #[.agg #[.int .i64 (yOf n), .int .i64 (mOf n), .int .i64 (dOf n)], .int .i64 0]) ∧ Below w.heap.size w w' := by
  have hyr := yr_of h1 h2
  obtain ⟨e5, e4⟩ := of_way2 n hA hB
  have E5 := Lib.hid e5
  have E4 := Lib.hid e4
  clear e5 e4
  go_enter Tryz.func197, Tryz.ntmps197
  go_wp2_with fail
  go_step3
  go_wp2_with fail
  simp only [E5.out, E4.out]
  clear hA hB E5 E4
  refine (gahead_any (yOf n) _ (ht.alloc _) hyr.1 hyr.2.1).mono ?_
  rintro e w1 ⟨rfl, hb1⟩
  have q1 := Lib.hid (ahead_info (yOf n))
  have q2 := Lib.hid (show zeros13.size = (aheadArr (yOf n)).size from rfl)
  have q3 := Lib.hid (ahead_cells (yOf n))
  have q4 := Lib.hid (BlockIs.new w1 zeros13 370)
  have q5 := Lib.hid (q4.out.row (aheadArr (yOf n)))
  have hmf := mFrom_of hyr.2.2.2.1 hyr.2.2.2.2
  have hm : mFrom (yOf n) (rOf n) = mOf n := rfl
  rw [hm] at hmf
  have hsz : w.heap.size + 1 ≤ w1.heap.size := by have := hb1.size; simp at this; omega
  have hres : BlockIs w1 w.heap.size #[.int .i64 0, .int .i64 0, .int .i64 0] 323 := by
   have := (BlockIs.new w #[.int .i64 0, .int .i64 0, .int .i64 0] 323).kept hb1
   simpa using this
  have q6 := Lib.hid ((hres.alloc (.cells zeros13 370)).rowOther (b' := w1.heap.size) (by omega) (aheadArr (yOf n)))
  have q7 := Lib.hid (below_setRow (b := w1.heap.size) ((((Below.refl w.heap.size w).alloc (Nat.le_refl _) (.cells #[.int .i64 0, .int .i64 0, .int .i64 0] 323)).trans (hb1.mono (by simp))).alloc (by omega) (.cells zeros13 370)) (by omega) (aheadArr (yOf n)))
  clear hres hb1 hm
  go_wp2_with (first
    | (refine wpList_store_row (by rfl) _ _ _ (by rfl) w1.heap.size (aheadArr (yOf n)) (by rfl) (by rfl) _ _ q4.out q1.out q2.out q3.out ?_))
  have q8 : (w1.alloc (.cells #[.int .i64 0, .int .i64 0, .int .i64 0, .int .i64 0, .int .i64 0, .int .i64 0, .int .i64 0, .int .i64 0, .int .i64 0, .int .i64 0, .int .i64 0, .int .i64 0, .int .i64 0] 370)) = w1.alloc (.cells zeros13 370) := rfl
  rw [q8]
  clear q8
  clear q4 q1 q2 q3
  generalize (w1.alloc (.cells zeros13 370)).setRow w1.heap.size (aheadArr (yOf n)) = W2 at *
  go_step3
  go_wp2_with fail
  go_loop [9] (fun m => ∃ M : Int, 1 ≤ M ∧ M ≤ mOf n ∧ m = .int .i64 M) (fun m => (12 - intOf m).toNat)
  case atStart => exact ⟨1, by omega, by omega, rfl⟩
  case round =>
   obtain ⟨M, hM1, hM2, rfl⟩ := hrel
   have k1 := (q5.out).cell (ahead_at (yOf n) hM1 (by omega))
   have k2 := (q5.out).cell (ahead_at' (yOf n) hM1 (by omega))
   have hcb := cum_bd (yOf n) (m := M) hM1 (by omega)
   have hlp := lp_01 (yOf n)
   by_cases hlt : M < mOf n
   ·have hle := cum_le (y := yOf n) (a := M + 1) (b := mOf n) ⟨hyr.1, hyr.2.1⟩ (by omega) (by omega) (by omega)
    go_wp2
    go_round
    case rel => exact ⟨M + 1, by omega, by omega, rfl⟩
    case measure => simp [intOf]; omega
   ·have e : M = mOf n := by omega
    subst e
    by_cases h12 : mOf n < 12
    all_goals
     have b0 : W2.cell? ⟨w.heap.size, 0, none⟩ = some (.int .i64 0) := q6.out.cell rfl
     have b1 : W2.cell? ⟨w.heap.size, 1, none⟩ = some (.int .i64 0) := q6.out.cell rfl
     have b2 : W2.cell? ⟨w.heap.size, 2, none⟩ = some (.int .i64 0) := q6.out.cell rfl
     have f0 := q6.out.free 0
     have f1 := q6.out.free 1
     have f2 := q6.out.free 2
     go_wp2
     try simp only [Exit.noGoto_ret]
     refine bodyPost_ret (v := .tuple #[.agg #[.int .i64 (yOf n), .int .i64 (mOf n), .int .i64 (rOf n - cum (yOf n) (mOf n) + 1)], .int .i64 0]) (by simp [results, Tryz.results197, go_sem, b0, b1, b2]) (by rfl) ⟨by rfl, ((q7.out.setCell (Nat.le_refl _) _).setCell (Nat.le_refl _) _).setCell (Nat.le_refl _) _⟩
theorem gof_way3 (n : Int) (w : World) (ht : Tab w) (h1 : 1 ≤ n) (h2 : n ≤ 3652059) (hA : (n - 1) % 146097 / 36524 ≤ 3) (hB : ((n - 1) % 146097 - (n - 1) % 146097 / 36524 * 36524) % 1461 / 365 ≤ 3) : Calls Tryz.prog 197 #[.int .i64 n] w fun e w' => e = .returned (.tuple #[.agg #[.int .i64 (yOf n), .int .i64 (mOf n), .int .i64 (dOf n)], .int .i64 0]) ∧ Below w.heap.size w w' := by
  have hyr := yr_of h1 h2
  obtain ⟨e5, e4⟩ := of_way3 n hA hB
  have E5 := Lib.hid e5
  have E4 := Lib.hid e4
  clear e5 e4
  go_enter Tryz.func197, Tryz.ntmps197
  go_wp2_with fail
  go_step3
  go_wp2_with fail
  simp only [E5.out, E4.out]
  clear hA hB E5 E4
  refine (gahead_any (yOf n) _ (ht.alloc _) hyr.1 hyr.2.1).mono ?_
  rintro e w1 ⟨rfl, hb1⟩
  have q1 := Lib.hid (ahead_info (yOf n))
  have q2 := Lib.hid (show zeros13.size = (aheadArr (yOf n)).size from rfl)
  have q3 := Lib.hid (ahead_cells (yOf n))
  have q4 := Lib.hid (BlockIs.new w1 zeros13 370)
  have q5 := Lib.hid (q4.out.row (aheadArr (yOf n)))
  have hmf := mFrom_of hyr.2.2.2.1 hyr.2.2.2.2
  have hm : mFrom (yOf n) (rOf n) = mOf n := rfl
  rw [hm] at hmf
  have hsz : w.heap.size + 1 ≤ w1.heap.size := by have := hb1.size; simp at this; omega
  have hres : BlockIs w1 w.heap.size #[.int .i64 0, .int .i64 0, .int .i64 0] 323 := by
   have := (BlockIs.new w #[.int .i64 0, .int .i64 0, .int .i64 0] 323).kept hb1
   simpa using this
  have q6 := Lib.hid ((hres.alloc (.cells zeros13 370)).rowOther (b' := w1.heap.size) (by omega) (aheadArr (yOf n)))
  have q7 := Lib.hid (below_setRow (b := w1.heap.size) ((((Below.refl w.heap.size w).alloc (Nat.le_refl _) (.cells #[.int .i64 0, .int .i64 0, .int .i64 0] 323)).trans (hb1.mono (by simp))).alloc (by omega) (.cells zeros13 370)) (by omega) (aheadArr (yOf n)))
  clear hres hb1 hm
  go_wp2_with (first
    | (refine wpList_store_row (by rfl) _ _ _ (by rfl) w1.heap.size (aheadArr (yOf n)) (by rfl) (by rfl) _ _ q4.out q1.out q2.out q3.out ?_))
  have q8 : (w1.alloc (.cells #[.int .i64 0, .int .i64 0, .int .i64 0, .int .i64 0, .int .i64 0, .int .i64 0, .int .i64 0, .int .i64 0, .int .i64 0, .int .i64 0, .int .i64 0, .int .i64 0, .int .i64 0] 370)) = w1.alloc (.cells zeros13 370) := rfl
  rw [q8]
  clear q8
  clear q4 q1 q2 q3
  generalize (w1.alloc (.cells zeros13 370)).setRow w1.heap.size (aheadArr (yOf n)) = W2 at *
  go_step3
  go_wp2_with fail
  go_loop [9] (fun m => ∃ M : Int, 1 ≤ M ∧ M ≤ mOf n ∧ m = .int .i64 M) (fun m => (12 - intOf m).toNat)
  case atStart => exact ⟨1, by omega, by omega, rfl⟩
  case round =>
   obtain ⟨M, hM1, hM2, rfl⟩ := hrel
   have k1 := (q5.out).cell (ahead_at (yOf n) hM1 (by omega))
   have k2 := (q5.out).cell (ahead_at' (yOf n) hM1 (by omega))
   have hcb := cum_bd (yOf n) (m := M) hM1 (by omega)
   have hlp := lp_01 (yOf n)
   by_cases hlt : M < mOf n
   ·have hle := cum_le (y := yOf n) (a := M + 1) (b := mOf n) ⟨hyr.1, hyr.2.1⟩ (by omega) (by omega) (by omega)
    go_wp2
    go_round
    case rel => exact ⟨M + 1, by omega, by omega, rfl⟩
    case measure => simp [intOf]; omega
   ·have e : M = mOf n := by omega
    subst e
    by_cases h12 : mOf n < 12
    all_goals
     have b0 : W2.cell? ⟨w.heap.size, 0, none⟩ = some (.int .i64 0) := q6.out.cell rfl
     have b1 : W2.cell? ⟨w.heap.size, 1, none⟩ = some (.int .i64 0) := q6.out.cell rfl
     have b2 : W2.cell? ⟨w.heap.size, 2, none⟩ = some (.int .i64 0) := q6.out.cell rfl
     have f0 := q6.out.free 0
     have f1 := q6.out.free 1
     have f2 := q6.out.free 2
     go_wp2
     try simp only [Exit.noGoto_ret]
     refine bodyPost_ret (v := .tuple #[.agg #[.int .i64 (yOf n), .int .i64 (mOf n), .int .i64 (rOf n - cum (yOf n) (mOf n) + 1)], .int .i64 0]) (by simp [results, Tryz.results197, go_sem, b0, b1, b2]) (by rfl) ⟨by rfl, ((q7.out.setCell (Nat.le_refl _) _).setCell (Nat.le_refl _) _).setCell (Nat.le_refl _) _⟩
theorem gof_ok (n : Int) (w : World) (ht : Tab w) (h1 : 1 ≤ n) (h2 : n ≤ 3652059) : Calls Tryz.prog 197 #[.int .i64 n] w fun e w' => e = .returned (.tuple #[.agg #[.int .i64 (yOf n), .int .i64 (mOf n), .int .i64 (dOf n)], .int .i64 0]) ∧ Below w.heap.size w w' := by
 by_cases hA : (n - 1) % 146097 / 36524 ≤ 3
 ·by_cases hB : ((n - 1) % 146097 - (n - 1) % 146097 / 36524 * 36524) % 1461 / 365 ≤ 3
  ·exact gof_way3 n w ht h1 h2 hA hB
  ·exact gof_way2 n w ht h1 h2 hA (by omega)
 ·exact gof_way1 n w ht h1 h2 (by omega)
def OkN (w k : Int) : Prop := 0 ≤ w ∧ w ≤ 6 ∧ (k = -1 ∨ (1 ≤ k ∧ k ≤ 5))
instance (w k : Int) : Decidable (OkN w k) := by unfold OkN; infer_instance
def fst1 (y m : Int) : Int := num y m 1
def hit1 (y m w : Int) : Int := fst1 y m + gap (fst1 y m) 7 w
def lastW (y m w : Int) : Int := hit1 y m w + (fst1 y m + dim y m - 1 - hit1 y m w) / 7 * 7
def nthV (y m w k : Int) : Int × Int :=
 if OkM y m then
  if OkN w k then
   if k = -1 then (lastW y m w, 0)
   else if hit1 y m w + 7 * (k - 1) < fst1 y m + dim y m then (hit1 y m w + 7 * (k - 1), 0) else (0, 22)
  else (0, 22)
 else (0, 20)
theorem may_one {y m : Int} (h : OkM y m) : May y m 1 := ⟨by omega, by have := dim_ok h; omega⟩
theorem fst_bd {y m : Int} (h : OkM y m) : 1 ≤ fst1 y m ∧ fst1 y m + dim y m - 1 ≤ 3652059 := by
 have a := num_bd (may_one h)
 have b := num_bd (y := y) (m := m) (d := dim y m) ⟨by have := dim_ok h; omega, by omega⟩
 unfold fst1
 unfold num at *
 omega
theorem hit_bd {y m w : Int} (h : OkM y m) : fst1 y m ≤ hit1 y m w ∧ hit1 y m w ≤ fst1 y m + 6 := by
 have := gap_bd (fst1 y m) 7 w (by omega)
 unfold hit1; omega
theorem gnth_nomonth (y m wd k : Int) (w : World) (hm : ¬ OkM y m) : Calls Tryz.prog 253 #[.int .i64 y, .int .i64 m, .int .i64 wd, .int .i64 k] w
  fun e w' => e = .returned (.tuple #[.int .i64 0, .int .i64 20]) ∧ Below w.heap.size w w' := by
 go_enter Tryz.func253, Tryz.ntmps253
 go_wp2_with fail
 refine (gdays_no _ _ _ hm).mono ?_; rintro e w' ⟨rfl, rfl⟩
 go_wp2
 go_ret2
 exact ⟨rfl, Below.refl _ _⟩
theorem gnth_no (y m wd k : Int) (w : World) (ht : Tab w) (hm : OkM y m) (hn : ¬ OkN wd k) : Calls Tryz.prog 253 #[.int .i64 y, .int .i64 m, .int .i64 wd, .int .i64 k] w
  fun e w' => e = .returned (.tuple #[.int .i64 0, .int .i64 22]) ∧ Below w.heap.size w w' := by
 have hd := dim_ok hm
 have hdb := dim_bd y m
 have hd0 : (dim y m == 0) = false := beq_eq_false_iff_ne.2 (by omega)
 have hc : wd < 0 ∨ (0 ≤ wd ∧ 6 < wd) ∨ (0 ≤ wd ∧ wd ≤ 6 ∧ (k != -1) = true ∧ k < 1) ∨ (0 ≤ wd ∧ wd ≤ 6 ∧ (k != -1) = true ∧ 1 ≤ k ∧ 5 < k) := by
  unfold OkN at hn
  by_cases c1 : wd < 0
  ·exact .inl c1
  by_cases c2 : 6 < wd
  ·exact .inr (.inl ⟨by omega, c2⟩)
  have c5 : (k != -1) = true := by rw [bne_iff_ne]; omega
  by_cases c3 : k < 1
  ·exact .inr (.inr (.inl ⟨by omega, by omega, c5, c3⟩))
  ·exact .inr (.inr (.inr ⟨by omega, by omega, c5, by omega, by omega⟩))
 clear hn
 rcases hc with hc | ⟨hc, hc2⟩ | ⟨hc, hc2, hc3, hc4⟩ | ⟨hc, hc2, hc3, hc4, hc5⟩
 all_goals
  go_enter Tryz.func253, Tryz.ntmps253
  go_wp2_with fail
  refine (gdays_ok _ _ _ ht hm).mono ?_; rintro e w' ⟨rfl, rfl⟩
  go_wp2
  go_ret2
  exact ⟨rfl, Below.refl _ _⟩
theorem gnth_last (y m wd : Int) (w : World) (ht : Tab w) (hm : OkM y m) (n1 : 0 ≤ wd) (n2 : wd ≤ 6) : Calls Tryz.prog 253 #[.int .i64 y, .int .i64 m, .int .i64 wd, .int .i64 (-1)] w
  fun e w' => e = .returned (.tuple #[.int .i64 (lastW y m wd), .int .i64 0]) ∧ Below w.heap.size w w' := by
 have hd := dim_ok hm
 have hdb := dim_bd y m
 have hd0 : (dim y m == 0) = false := beq_eq_false_iff_ne.2 (by omega)
 have hf := fst_bd hm
 have hh := hit_bd (w := wd) hm
 have hone := may_one hm
 have hgap : num y m 1 + gap (num y m 1) 7 wd = hit1 y m wd := rfl
 have hnum : num y m 1 = fst1 y m := rfl
 have hgapH := Lib.hid (show num y m 1 + gap (num y m 1) 7 wd ≤ 9223372036854775807 by rw [hgap]; omega)
 have hI : I64 (num y m 1) := by unfold I64; rw [hnum]; omega
 have hG := Lib.hid hgap
 have hN := Lib.hid hnum
 clear hgap hnum
 go_enter Tryz.func253, Tryz.ntmps253
 go_wp2_with fail
 refine (gdays_ok _ _ _ ht hm).mono ?_; rintro e w' ⟨rfl, rfl⟩
 go_wp2_with fail
 refine (gday_ok _ _ _ _ ht hone).mono ?_; rintro e w1 ⟨rfl, hb1⟩
 go_wp2_with fail
 refine (next_ok _ _ _ _ (by omega) hI (by omega) n1 (by omega) hgapH.out).mono ?_; rintro e w' ⟨rfl, rfl⟩
 rw [hG.out, hN.out]
 go_wp2
 go_ret2
 exact ⟨two (by unfold lastW; rfl) rfl, hb1⟩
theorem gnth_k (y m wd k : Int) (w : World) (ht : Tab w) (hm : OkM y m) (n1 : 0 ≤ wd) (n2 : wd ≤ 6) (k1 : 1 ≤ k) (k2 : k ≤ 5) : Calls Tryz.prog 253 #[.int .i64 y, .int .i64 m, .int .i64 wd, .int .i64 k] w
  fun e w' => e = .returned (.tuple #[.int .i64 (if hit1 y m wd + 7 * (k - 1) < fst1 y m + dim y m then hit1 y m wd + 7 * (k - 1) else 0), .int .i64 (if hit1 y m wd + 7 * (k - 1) < fst1 y m + dim y m then 0 else 22)]) ∧ Below w.heap.size w w' := by
 have hd := dim_ok hm
 have hdb := dim_bd y m
 have hd0 : (dim y m == 0) = false := beq_eq_false_iff_ne.2 (by omega)
 have hf := fst_bd hm
 have hh := hit_bd (w := wd) hm
 have hone := may_one hm
 have hkn : (k != -1) = true := by rw [bne_iff_ne]; omega
 have hkn2 : (k == -1) = false := beq_eq_false_iff_ne.2 (by omega)
 have hgap : num y m 1 + gap (num y m 1) 7 wd = hit1 y m wd := rfl
 have hnum : num y m 1 = fst1 y m := rfl
 have hgapH := Lib.hid (show num y m 1 + gap (num y m 1) 7 wd ≤ 9223372036854775807 by rw [hgap]; omega)
 have hI : I64 (num y m 1) := by unfold I64; rw [hnum]; omega
 have hG := Lib.hid hgap
 have hN := Lib.hid hnum
 clear hgap hnum
 by_cases hc : hit1 y m wd + 7 * (k - 1) < fst1 y m + dim y m
 ·rw [if_pos hc, if_pos hc]
  go_enter Tryz.func253, Tryz.ntmps253
  go_wp2_with fail
  refine (gdays_ok _ _ _ ht hm).mono ?_; rintro e w' ⟨rfl, rfl⟩
  go_wp2_with fail
  refine (gday_ok _ _ _ _ ht hone).mono ?_; rintro e w1 ⟨rfl, hb1⟩
  go_wp2_with fail
  refine (next_ok _ _ _ _ (by omega) hI (by omega) n1 (by omega) hgapH.out).mono ?_; rintro e w' ⟨rfl, rfl⟩
  rw [hG.out, hN.out]
  go_wp2
  go_ret2
  exact ⟨rfl, hb1⟩
 ·rw [if_neg hc, if_neg hc]
  go_enter Tryz.func253, Tryz.ntmps253
  go_wp2_with fail
  refine (gdays_ok _ _ _ ht hm).mono ?_; rintro e w' ⟨rfl, rfl⟩
  go_wp2_with fail
  refine (gday_ok _ _ _ _ ht hone).mono ?_; rintro e w1 ⟨rfl, hb1⟩
  go_wp2_with fail
  refine (next_ok _ _ _ _ (by omega) hI (by omega) n1 (by omega) hgapH.out).mono ?_; rintro e w' ⟨rfl, rfl⟩
  rw [hG.out, hN.out]
  go_wp2
  go_ret2
  exact ⟨rfl, hb1⟩
theorem gnth_any (y m wd k : Int) (w : World) (ht : Tab w) : Calls Tryz.prog 253 #[.int .i64 y, .int .i64 m, .int .i64 wd, .int .i64 k] w
  fun e w' => e = .returned (.tuple #[.int .i64 (nthV y m wd k).1, .int .i64 (nthV y m wd k).2]) ∧ Below w.heap.size w w' := by
 unfold nthV
 by_cases hm : OkM y m
 ·rw [if_pos hm]
  by_cases hn : OkN wd k
  ·rw [if_pos hn]
   obtain ⟨n1, n2, n3⟩ := hn
   by_cases hk : k = -1
   ·rw [if_pos hk]; subst hk; exact gnth_last y m wd w ht hm n1 n2
   ·rw [if_neg hk]
    have := gnth_k y m wd k w ht hm n1 n2 (by omega) (by omega)
    by_cases hc : hit1 y m wd + 7 * (k - 1) < fst1 y m + dim y m
    ·rw [if_pos hc, if_pos hc] at this; rw [if_pos hc]; exact this
    ·rw [if_neg hc, if_neg hc] at this; rw [if_neg hc]; exact this
  ·rw [if_neg hn]; exact gnth_no y m wd k w ht hm hn
 ·rw [if_neg hm]; exact gnth_nomonth y m wd k w hm
end Go.Proofs.YtfnifgppblbjhaaGreatDoor
namespace Go.Proofs.YtfnifgppblbjhaaGreatDoor
set_option maxHeartbeats 8000000
open Go
theorem not_ready {md : Region.Mode} {ops : Array Oper} {listed : Array Bool} (h : listed.toList.count false = 0) : Region.ready md ops listed = [] := by
 rw [List.eq_nil_iff_forall_not_mem]
 intro j hj
 obtain ⟨h0, _⟩ := mem_ready.1 hj
 rw [List.count_eq_zero] at h
 by_cases c : j < listed.size
 ·have e : listed[j] = false := by simpa [c] using h0
  exact h (by rw [← e]; exact Array.getElem_mem_toList c)
 ·simp [Array.getElem?_eq_none (by omega : listed.size ≤ j)] at h0
theorem count_listed {md : Region.Mode} {ops : Array Oper} {listed : Array Bool} {i : Nat} (hi : i ∈ Region.ready md ops listed) : (listed.setIfInBounds i true).toList.count false + 1 = listed.toList.count false := by
 obtain ⟨h0, _⟩ := mem_ready.1 hi
 have c : i < listed.size := by
  by_cases c : i < listed.size
  ·exact c
  ·simp [Array.getElem?_eq_none (by omega : listed.size ≤ i)] at h0
 have e : listed[i] = false := by simpa [c] using h0
 have hm : false ∈ listed.toList := by rw [← e]; exact Array.getElem_mem_toList c
 have hp : 0 < listed.toList.count false := List.count_pos_iff.2 hm
 have c2 : i < listed.toList.length := by simpa using c
 have e2 : (listed.toList[i] == false) = true := by simp [e]
 have e3 : ((true : Bool) == false) = false := rfl
 rw [Array.toList_setIfInBounds, List.count_set c2]
 simp only [e2, e3, if_true, Bool.false_eq_true, if_false]
 omega
theorem wpAny_inv {P : Program} {md : Region.Mode} {ops : Array Oper} {Q : Exit → Act → World → Prop} (Inv : Array Bool → Act → World → Prop)
  (hstep : ∀ listed a w i, Inv listed a w → i ∈ Region.ready md ops listed → wpOp P ops Q i (Inv (listed.setIfInBounds i true)) a w)
  (hend : ∀ listed a w, Inv listed a w → Region.ready md ops listed = [] → Q .normal a w) :
  ∀ (fuel : Nat) (listed : Array Bool) (a : Act) (w : World), listed.toList.count false ≤ fuel → Inv listed a w → wpAny P md ops Q fuel listed a w := by
 intro fuel
 induction fuel with
 | zero =>
  intro listed a w hc h
  have r := not_ready (md := md) (ops := ops) (listed := listed) (by omega)
  exact ⟨r, hend _ _ _ h r⟩
 | succ fuel ih =>
  intro listed a w hc h
  refine ⟨hend _ _ _ h, fun i hi => wpOp_mono (fun a' w' h' => ih _ a' w' ?_ h') (hstep _ _ _ i h hi)⟩
  have := count_listed hi
  omega
end Go.Proofs.YtfnifgppblbjhaaGreatDoor
namespace Go.Proofs.YtfnifgppblbjhaaGreatDoor
set_option maxHeartbeats 8000000
open Go Go.RowKit
def SeqOwn {α : Type} (F : Fence) (n : Nat) (P : Program) (g : Nat) (lb : Array Value) (encs : α → Array Value) (Kp : World → World → Prop) (b : Nat) (S Sp : List α → Prop) (Nx : List α → α → Prop) (w : World) : Prop :=
 ∀ (l : Nat) (J Jx : List α → World → Prop) (W : World), Below w.heap.size w W → AbidesFrom W.heap.size J → AbidesFrom W.heap.size Jx →
  (∀ pre W1 v, J pre W1 → J pre (W1.setCell ⟨b, 0, none⟩ v)) →
  (∀ pre x W1, J pre W1 → Nx pre x → YieldAt F (n - 1) P l (encs x) W1 fun e W' =>
   (e = .returned (.bool true) ∧ J (pre ++ [x]) W' ∧ Kp W1 W') ∨ (e = .returned (.bool false) ∧ Jx (pre ++ [x]) W')) →
  J [] W →
  CallsIn F n P g (#[.func (.yield l) #[] #[]] ++ lb) W fun e W' => (∃ v, e = .returned v) ∧ ((∃ xs, S xs ∧ J xs W') ∨ (∃ pre, Sp pre ∧ Jx pre W'))
variable {F : Fence} {n : Nat} {P : Program}
theorem range_own {α : Type} {g : Operand} {ps : Array Tmp} {assign body : Code} {Q : Exit → Act → World → Prop} {a : Act} {w : World}
  (hro : F.round = none) (h1 : 1 ≤ n) {gf : Nat} {lb : Array Value} (hg : a.eval g = .func (.func gf) #[] lb) (hFg : F.fn gf) (eg : ∀ args w, (callFunc gf args).run P w = .ok (.enter gf args) w)
  {encs : α → Array Value} {Kp : World → World → Prop} {b : Nat} {S Sp : List α → Prop} {Nx : List α → α → Prop} {w0 : World} (hseq : SeqOwn F (n - 1) P gf lb encs Kp b S Sp Nx w0)
  (hKt : ∀ {A B C : World}, Kp A B → Kp B C → Kp A C) (hKb : ∀ (W : World) (l : Nat) (o o' : Obj), w.heap.size ≤ l → W.heap[l]? = some o → o.isCells = false → o.isWalk = false → Kp W (W.putObj l o')) (hb0 : Below w0.heap.size w0 w) (hps : ∀ x, (encs x).size = ps.size)
  (hb : b < w.heap.size) (I : List α → World → Prop) (Ix : Code → List α → World → Prop) (hI : OwnFrom w.heap.size I) (hIx : ∀ c, OwnFrom w.heap.size (Ix c)) (hIb : ∀ pre W v, I pre W → I pre (W.setCell ⟨b, 0, none⟩ v)) (h0 : I [] w) (a₁ : α → Act)
  (hassign : ∀ (l : Nat) (x : α) (W : World) (K : Act → World → Prop), K (a₁ x) W →
   assign.wpIn (F.inRound l) (n - 1 - 1) P (Exit.then K (fun _ _ _ => False)) { tmps := (ps.zip (encs x)).foldl (fun t (p, v) => t.setIfInBounds p v) a.tmps, defers := [] } W)
  (hbody : ∀ (l : Nat) (pre : List α) (x : α) (W : World), I pre W → Nx pre x → body.wpIn (F.inRound l) (n - 1 - 1) P (ownPostK Kp I Ix (pre ++ [x]) W) (a₁ x) W)
  (hdone : ∀ (D : Nat) (xs : List α) (W : World), w.heap.size ≤ D → S xs → I xs W → W.heap[D]? = some (.deferred (some [])) → Q .normal { a with defers := { target := .collected D, args := #[] } :: a.defers } W)
  (hstop : ∀ (D : Nat) (c : Code) (pre : List α) (W : World), w.heap.size ≤ D → Sp pre → Ix c pre W → W.heap[D]? = some (.deferred (some [])) → c.wpIn F n P Q { a with defers := { target := .collected D, args := #[] } :: a.defers } W) :
  (Code.rangeFunc g ps assign body).wpIn F n P Q a w := by
 refine wpIn_rangeFunc fun fn hfn => ?_
 rw [hro]
 obtain ⟨rec, hrec⟩ : ∃ rec : LoopState → Option Code → Loop, rec = fun st pe => { state := st, pending := pe, fn, tmps := a.tmps, params := ps, assign, body, defers := w.heap.size } := ⟨_, rfl⟩
 obtain ⟨W1, hW1⟩ : ∃ W1, (w.alloc (.deferred (some []))).alloc (.loop (rec .ready none)) = W1 := ⟨_, rfl⟩
 have stand : ∀ (W : World) (st : LoopState) (pe : Option Code), (W.heap[w.heap.size + 1]? = some (.loop (rec st pe)) ∧ W.heap[w.heap.size]? = some (.deferred (some []))) → ∀ v, ((W.setCell ⟨b, 0, none⟩ v).heap[w.heap.size + 1]? = some (.loop (rec st pe)) ∧ (W.setCell ⟨b, 0, none⟩ v).heap[w.heap.size]? = some (.deferred (some []))) :=
  fun W st pe h v => ⟨(Below.heap_setCell W _ v _ (by show _ ≠ b; omega)).trans h.1, (Below.heap_setCell W _ v _ (by show _ ≠ b; omega)).trans h.2⟩
 have hL1 : W1.heap[w.heap.size + 1]? = some (.loop (rec .ready none)) := by
  rw [← hW1]; have := World.alloc_heap_new (w.alloc (.deferred (some []))) (.loop (rec .ready none)); rwa [World.size_alloc] at this
 have hK1 : W1.heap[w.heap.size]? = some (.deferred (some [])) := by
  rw [← hW1]; exact (Below.heap_alloc _ _ _ (by simp)).trans (World.alloc_heap_new w _)
 have hI1 : I [] W1 := by rw [← hW1]; exact hI.alloc _ (hI.alloc _ h0)
 have hb1 : Below w0.heap.size w0 W1 := by
  rw [← hW1]; exact hb0.trans ((((Below.refl _ w).alloc (Nat.le_refl _) _).alloc (by simp) _).mono hb0.size)
 have hsz1 : w.heap.size ≤ W1.heap.size := by rw [← hW1]; simp; omega
 refine ⟨w.heap.size + 1, [{ target := .collected w.heap.size, args := #[] }], W1, { target := .fn (.func gf) lb, args := #[.func (.yield (w.heap.size + 1)) #[] #[]] }, W1, gf,
  #[.func (.yield (w.heap.size + 1)) #[] #[]] ++ lb, W1, ?_, ?_, ?_, ?_, fun _ => h1, ?_⟩
 ·rw [← hW1, hrec]; exact run_enterLoop_outer _ _ _ _ _
 ·simp only [resolve, hg]; simp [go_sem]
 ·intro f' hf'; simp [Target.leads] at hf'; subst hf'; exact hFg
 ·simp [invoke, go_sem, eg]
 ·have hnw : ∀ {A : World} {row : Option Nat}, (∀ r, row = some r → W1.heap.size ≤ r ∧ ∃ o : Obj, A.heap[r]? = some o ∧ o.isWalk = true) → (∀ r, row = some r → w.heap.size ≤ r ∧ ∃ o : Obj, A.heap[r]? = some o ∧ o.isCells = false) :=
   fun hr r e => by obtain ⟨hB, o, ho, hw⟩ := hr r e; exact ⟨by omega, o, ho, Obj.not_cells_of_walk hw⟩
  refine (hseq (w.heap.size + 1)
   (fun pre W => I pre W ∧ W.heap[w.heap.size + 1]? = some (.loop (rec .ready none)) ∧ W.heap[w.heap.size]? = some (.deferred (some [])))
   (fun pre W => ∃ c, Ix c pre W ∧ W.heap[w.heap.size + 1]? = some (.loop (rec .done (some c))) ∧ W.heap[w.heap.size]? = some (.deferred (some [])))
   W1 hb1
   (fun s A B row hs hg' hr => ⟨hI s A B row hs.1 hg' (hnw hr), (grownBy_keeps hg' (fun r e => (hr r e).2) hs.2.1 rfl).trans hs.2.1, (grownBy_keeps hg' (fun r e => (hr r e).2) hs.2.2 rfl).trans hs.2.2⟩)
   (fun s A B row hs hg' hr => by
    obtain ⟨c, hc, hl, hk⟩ := hs
    exact ⟨c, hIx c s A B row hc hg' (hnw hr), (grownBy_keeps hg' (fun r e => (hr r e).2) hl rfl).trans hl, (grownBy_keeps hg' (fun r e => (hr r e).2) hk rfl).trans hk⟩)
   (fun pre W v hs => ⟨hIb pre W v hs.1, stand W _ _ hs.2 v⟩)
   ?_ ⟨hI1, hL1, hK1⟩).mono ?_
  ·rintro pre x W ⟨hi, hl, hk⟩ hlen
   have hlt : w.heap.size + 1 < W.heap.size := (Array.getElem?_eq_some_iff.1 hl).1
   have hy := run_yield (P := P) (args := encs x) hl (by rw [hrec]; exact hps x)
   rw [hrec] at hy
   refine ⟨fn, _, assign, body, hy, roundIn_of_wpIn hfn (hassign _ x W _ ⟨_, run_beginRound hl (by rw [hrec]), ?_⟩)⟩
   obtain ⟨Wb, hWb⟩ : ∃ Wb, W.putObj (w.heap.size + 1) (.loop { rec .ready none with state := .busy }) = Wb := ⟨_, rfl⟩
   have hl2 : Wb.heap[w.heap.size + 1]? = some (.loop { rec .ready none with state := .busy }) := by rw [← hWb]; exact World.putObj_heap_same hlt
   have hk2 : Wb.heap[w.heap.size]? = some (.deferred (some [])) := by rw [← hWb]; exact (World.putObj_heap_other (by omega)).trans hk
   have hw2 : Kp W Wb := by rw [← hWb]; exact hKb _ _ _ _ (by omega) hl rfl rfl
   have hib : I pre Wb := by rw [← hWb]; exact hI.putObj _ hi (by omega) hl rfl
   have fin : ∀ (jump : Option Code) (W3 : World), KeepsOthers Wb W3 → ∃ W4, W4 = W3.putObj (w.heap.size + 1) (.loop (rec (if jump.isNone then .ready else .done) jump)) ∧
     (Instr.endRound (w.heap.size + 1) jump).run P W3 = .ok (.bool jump.isNone) W4 ∧ W3.heap[w.heap.size + 1]? = some (.loop { rec .ready none with state := .busy }) ∧
     W4.heap[w.heap.size + 1]? = some (.loop (rec (if jump.isNone then .ready else .done) jump)) ∧ W4.heap[w.heap.size]? = some (.deferred (some [])) := fun jump W3 hk3 => by
    have hl3 := hk3.same _ _ hl2 rfl
    have hrun := run_endRound (P := P) jump hl3
    refine ⟨_, rfl, ?_, hl3, World.putObj_heap_same (Array.getElem?_eq_some_iff.1 hl3).1, (World.putObj_heap_other (by omega)).trans (hk3.same _ _ hk2 rfl)⟩
    rw [hrec] at hrun ⊢; exact hrun
   have leave : ∀ (c : Code) (W3 : World), KeepsOthers Wb W3 → Ix c (pre ++ [x]) W3 → ∃ (v : Value) (W4 : World), (Instr.endRound (w.heap.size + 1) (some c)).run P W3 = .ok v W4 ∧
     ((Ending.returned v = .returned (.bool true) ∧ (I (pre ++ [x]) W4 ∧ W4.heap[w.heap.size + 1]? = some (.loop (rec .ready none)) ∧ W4.heap[w.heap.size]? = some (.deferred (some []))) ∧ Kp W W4) ∨
      (Ending.returned v = .returned (.bool false) ∧ ∃ c, Ix c (pre ++ [x]) W4 ∧ W4.heap[w.heap.size + 1]? = some (.loop (rec .done (some c))) ∧ W4.heap[w.heap.size]? = some (.deferred (some [])))) := fun c W3 hk3 hi3 => by
    obtain ⟨W4, e4, hr, hl3, hl4, hk4⟩ := fin (some c) W3 hk3
    exact ⟨_, W4, hr, .inr ⟨rfl, c, by rw [e4]; exact (hIx c).putObj _ hi3 (by omega) hl3 rfl, hl4, hk4⟩⟩
   rw [hWb]
   refine wpIn_mono (hbody _ pre x _ hib hlen) ?_
   rintro e a3 W3 hp
   cases e with
   | normal =>
    obtain ⟨hk3, hkp3, hi3⟩ := hp
    obtain ⟨W4, e4, hr, hl3, hl4, hk4⟩ := fin none W3 hk3
    exact ⟨_, W4, hr, .inl ⟨rfl, ⟨by rw [e4]; exact hI.putObj _ hi3 (by omega) hl3 rfl, hl4, hk4⟩, hKt (hKt hw2 hkp3) (by rw [e4]; exact hKb _ _ _ _ (by omega) hl3 rfl rfl)⟩⟩
   | ret => exact leave _ W3 hp.1 hp.2
   | exit id => exact leave _ W3 hp.1 hp.2
   | goto t => exact leave _ W3 hp.1 hp.2
   | panic ch => exact hp.elim
   | outgrown => exact hp.elim
  ·rintro e W2 ⟨⟨v, rfl⟩, (⟨xs, hS, hi, hl, hk⟩ | ⟨pre, hSp, c, hi, hl, hk⟩)⟩
   ·exact ⟨none, _, by have := run_endLoop (P := P) hl (by rw [hrec]; simp); rw [hrec] at this; exact this, hdone _ xs _ (Nat.le_refl _) hS (hI.putObj _ hi (by omega) hl rfl) ((World.putObj_heap_other (by omega)).trans hk)⟩
   ·exact ⟨some c, _, by have := run_endLoop (P := P) hl (by rw [hrec]; simp); rw [hrec] at this; exact this, hstop _ c pre _ (Nat.le_refl _) hSp ((hIx c).putObj _ hi (by omega) hl rfl) ((World.putObj_heap_other (by omega)).trans hk)⟩
end Go.Proofs.YtfnifgppblbjhaaGreatDoor
