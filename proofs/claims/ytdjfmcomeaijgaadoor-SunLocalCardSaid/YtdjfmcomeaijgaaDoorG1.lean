/- What Leap, Days and the days ahead of a year return, said of whole numbers. -/
import Derived.Test.YtdjfmcomeaijgaaDoorA2
import Derived.Test.YtdjfmcomeaijgaaDoorG0
import Derived.Test.YtdjfmcomeaijgaaDoorTab
import Derived.Test.YtdjfmcomeaijgaaDoorB0
import Derived.Deep.RegionHeld3
import Derived.Deep.DeepCutAuto
namespace Go.Proofs.YtdjfmcomeaijgaaDoor
open Go.RowKit
set_option linter.unusedVariables false
set_option linter.unusedSimpArgs false

theorem boolEnd {a b : Bool} (h : a = true ↔ b = true) : Ending.returned (.bool a) = Ending.returned (.bool b) := by rw [Bool.eq_iff_iff.2 h]

set_option maxHeartbeats 1000000 in
theorem gleap_any (y : Int) (w : World) : Calls Tryd.prog 22 #[.int .i64 y] w fun e w' => e = .returned (.bool (lpB y)) ∧ w = w' := by
  have z4 := Lib.hid (tmod_zero y 4 (by omega))
  have z100 := Lib.hid (tmod_zero y 100 (by omega))
  have z400 := Lib.hid (tmod_zero y 400 (by omega))
  go_enter Tryd.func22, Tryd.ntmps22
  go_wp2
  all_goals
    go_ret
    refine ⟨boolEnd ?_, rfl⟩
    have z4 := z4.out
    have z100 := z100.out
    have z400 := z400.out
    unfold lpB
    simp [*]
    first | omega | (intros; omega)

theorem tab_at {w : World} (h : Tab w) {m : Int} (h1 : 1 ≤ m) (h2 : m ≤ 12) : w.cell? ⟨0, m.toNat - 1, none⟩ = some (.int .i64 (len12 m)) := by
  have := h.cell (m.toNat - 1) (by omega)
  rw [this]
  rcases months12 h1 h2 with e | e | e | e | e | e | e | e | e | e | e | e <;> subst e <;> rfl

set_option maxHeartbeats 1000000 in
theorem gdays_no (y m : Int) (w : World) (h : ¬ OkM y m) : Calls Tryd.prog 24 #[.int .i64 y, .int .i64 m] w fun e w' => e = .returned (.int .i64 0) ∧ w = w' := by
  unfold OkM at h
  by_cases h1 : y < 1
  · clear h
    go_enter Tryd.func24, Tryd.ntmps24
    go_wp2
    go_ret
    exact ⟨rfl, rfl⟩
  by_cases h2 : 9999 < y
  · have h1 : 1 ≤ y := by omega
    clear h
    go_enter Tryd.func24, Tryd.ntmps24
    go_wp2
    go_ret
    exact ⟨rfl, rfl⟩
  by_cases h3 : m < 1
  · have h1 : 1 ≤ y := by omega
    have h2 : y ≤ 9999 := by omega
    clear h
    go_enter Tryd.func24, Tryd.ntmps24
    go_wp2
    go_ret
    exact ⟨rfl, rfl⟩
  · have h1 : 1 ≤ y := by omega
    have h2 : y ≤ 9999 := by omega
    have h3 : 1 ≤ m := by omega
    have h4 : 12 < m := by omega
    clear h
    go_enter Tryd.func24, Tryd.ntmps24
    go_wp2
    go_ret
    exact ⟨rfl, rfl⟩

set_option maxHeartbeats 1000000 in
theorem gdays_ok (y m : Int) (w : World) (ht : Tab w) (h : OkM y m) : Calls Tryd.prog 24 #[.int .i64 y, .int .i64 m] w fun e w' => e = .returned (.int .i64 (dim y m)) ∧ w = w' := by
  have hd : dim y m = if m = 2 then 28 + lp y else len12 m := by unfold dim; rw [if_pos h]
  obtain ⟨h1, h2, h3, h4⟩ := h
  by_cases c : m = 2
  · rw [if_pos c] at hd
    have c1 : w.cell? ⟨0, 1, none⟩ = some (.int .i64 28) := ht.cell 1 (by omega)
    by_cases hl : lpB y = true
    · have e : dim y m = 29 := by rw [hd]; unfold lp; rw [if_pos hl]; rfl
      have H := Lib.hid e
      have Hl := Lib.hid hl
      subst c
      clear hd e hl
      go_enter Tryd.func24, Tryd.ntmps24
      go_wp2_with fail
      refine (gleap_any _ _).mono ?_; rintro e w' ⟨rfl, rfl⟩
      rw [Hl.out]
      go_wp2
      go_ret
      exact ⟨one H.out.symm, rfl⟩
    · have e : dim y m = 28 := by rw [hd]; unfold lp; rw [if_neg hl]; rfl
      have H := Lib.hid e
      have Hl := Lib.hid (show lpB y = false by simpa using hl)
      subst c
      clear hd e hl
      go_enter Tryd.func24, Tryd.ntmps24
      go_wp2_with fail
      refine (gleap_any _ _).mono ?_; rintro e w' ⟨rfl, rfl⟩
      rw [Hl.out]
      go_wp2
      go_ret
      exact ⟨one H.out.symm, rfl⟩
  · rw [if_neg c] at hd
    have H := Lib.hid hd
    have cm := tab_at ht h3 h4
    have b1 : (m == 2) = false := beq_eq_false_iff_ne.2 c
    clear hd c
    go_enter Tryd.func24, Tryd.ntmps24
    go_wp2
    go_ret
    exact ⟨one H.out.symm, rfl⟩

theorem gdays_any (y m : Int) (w : World) (ht : Tab w) : Calls Tryd.prog 24 #[.int .i64 y, .int .i64 m] w fun e w' => e = .returned (.int .i64 (dim y m)) ∧ w = w' := by
  by_cases h : OkM y m
  · exact gdays_ok y m w ht h
  · rw [dim_no h]; exact gdays_no y m w h

set_option maxHeartbeats 400000 in
theorem gbefore_any (y : Int) (w : World) (h1 : 1 ≤ y) (h2 : y ≤ 9999) : Calls Tryd.prog 54 #[.int .i64 y] w fun e w' => e = .returned (.int .i64 (bef y)) ∧ w = w' := by
  go_enter Tryd.func54, Tryd.ntmps54
  go_wp2
  go_ret
  exact ⟨one (by unfold bef; omega), rfl⟩

/-- The days of a year ahead of each month, as the program holds them. -/
def aheadArr (y : Int) : Array Value := #[.int .i64 0, .int .i64 (cum y 2), .int .i64 (cum y 3), .int .i64 (cum y 4), .int .i64 (cum y 5), .int .i64 (cum y 6), .int .i64 (cum y 7), .int .i64 (cum y 8), .int .i64 (cum y 9), .int .i64 (cum y 10), .int .i64 (cum y 11), .int .i64 (cum y 12), .int .i64 (cum y 13)]

/-- The row of sums, k of which are reckoned. -/
def sumsArr (y : Int) (k : Nat) : Array Value := ((List.range 13).map fun i => Value.int .i64 (if i < k then cum y (i + 1) else 0)).toArray
def zeros13 : Array Value := #[.int .i64 0, .int .i64 0, .int .i64 0, .int .i64 0, .int .i64 0, .int .i64 0, .int .i64 0, .int .i64 0, .int .i64 0, .int .i64 0, .int .i64 0, .int .i64 0, .int .i64 0]
theorem sumsArr_size (y : Int) (k : Nat) : (sumsArr y k).size = 13 := by simp [sumsArr]
theorem sumsArr_one (y : Int) : sumsArr y 1 = zeros13 := by
  have := cum_one y
  unfold sumsArr zeros13
  simp [List.range, List.range.loop, this]
theorem sumsArr_13 (y : Int) : sumsArr y 13 = aheadArr y := by
  have := cum_one y
  unfold sumsArr aheadArr
  simp [List.range, List.range.loop, this]
theorem sumsArr_at (y : Int) (k i : Nat) (h : i < 13) : (sumsArr y k)[i]? = some (Value.int .i64 (if i < k then cum y (i + 1) else 0)) := by
  unfold sumsArr; simp [h]
theorem sumsArr_set (y : Int) (k : Nat) (h : k < 13) : (sumsArr y k).setIfInBounds k (.int .i64 (cum y (k + 1))) = sumsArr y (k + 1) := by
  apply Array.ext_getElem?
  intro i
  rw [Array.getElem?_setIfInBounds]
  by_cases hi : i < 13
  · rw [sumsArr_at y k i hi, sumsArr_at y (k + 1) i hi, sumsArr_size]
    by_cases e : k = i
    · subst e; simp [h]
    · simp only [if_neg e]
      by_cases e2 : i < k
      · rw [if_pos e2, if_pos (by omega)]
      · rw [if_neg e2, if_neg (by omega)]
  · have h1 : (sumsArr y k)[i]? = none := by simp [sumsArr]; omega
    have h2 : (sumsArr y (k + 1))[i]? = none := by simp [sumsArr]; omega
    rw [h1, h2, sumsArr_size]
    by_cases e : k = i
    · omega
    · simp [e]

theorem ahead_size (y : Int) : (aheadArr y).size = 13 := rfl
theorem ahead_info (y : Int) : (Tryd.prog.info? 67).map (·.size) = some (aheadArr y).size := by rw [ahead_size]; kernel_rfl
theorem ahead_cells (y : Int) : (aheadArr y).all (·.oneCell') = true := by simp [aheadArr, Value.oneCell']

structure Sums (w0 : World) (y : Int) (k : Nat) (wr : World) : Prop where
  res : BlockIs wr w0.heap.size zeros13 67
  arr : BlockIs wr (w0.heap.size + 1) (sumsArr y k) 67
  below : Below w0.heap.size w0 wr
theorem Sums.drew {w0 : World} {y : Int} {k : Nat} {wr : World} (h : Sums w0 y k wr) : Sums w0 y k wr.drew := ⟨h.res, h.arr, h.below.drew⟩
theorem Sums.start (w0 : World) (y : Int) : Sums w0 y 1 ((w0.alloc (.cells zeros13 67)).alloc (.cells zeros13 67)) :=
  ⟨(BlockIs.new w0 _ _).alloc _, by rw [sumsArr_one]; have := BlockIs.new (w0.alloc (.cells zeros13 67)) zeros13 67; simpa using this, ((Below.refl _ _).alloc (Nat.le_refl _) _).alloc (by simp) _⟩
theorem Sums.cell {w0 : World} {y : Int} {k : Nat} {wr : World} (h : Sums w0 y k wr) {i : Nat} (hi : i < 13) : wr.cell? ⟨w0.heap.size + 1, i, none⟩ = some (Value.int .i64 (if i < k then cum y (i + 1) else 0)) := h.arr.cell (sumsArr_at y k i hi)
theorem Sums.set {w0 : World} {y : Int} {k : Nat} {wr : World} (h : Sums w0 y k wr) (hk : k < 13) : Sums w0 y (k + 1) (wr.setCell ⟨w0.heap.size + 1, k, none⟩ (.int .i64 (cum y (k + 1)))) :=
  ⟨h.res.other (by simp) _, by have := h.arr.set k (.int .i64 (cum y (k + 1))); rwa [sumsArr_set y k hk] at this, h.below.setCell (by simp) _⟩

set_option maxHeartbeats 2000000 in
theorem gahead_any (y : Int) (w : World) (ht : Tab w) (h1 : 1 ≤ y) (h2 : y ≤ 9999) : Calls Tryd.prog 55 #[.int .i64 y] w fun e w' => e = .returned (.agg (aheadArr y)) ∧ Below w.heap.size w w' := by
  go_enter Tryd.func55, Tryd.ntmps55
  go_wp2_with fail
  go_loopw [4] (fun m wr => ∃ k : Nat, 1 ≤ k ∧ k ≤ 13 ∧ m = .int .i64 k ∧ Sums w y k wr) (fun m wr => 13 - (intOf m).toNat)
  case atStart => exact ⟨1, by omega, by omega, rfl, Sums.start w y⟩
  case round =>
    obtain ⟨k, hk1, hk2, rfl, hs⟩ := hrel
    by_cases hlt : k ≤ 12
    · have htb : Tab wr := ht.below hs.below
      have hok : OkM y k := ⟨h1, h2, by omega, by omega⟩
      have c1 : wr.cell? ⟨w.heap.size + 1, k - 1, none⟩ = some (.int .i64 (cum y k)) := by
        have := hs.cell (i := k - 1) (by omega)
        rw [if_pos (by omega)] at this
        rw [this]; congr 2; congr 1; omega
      have c2 : wr.cell? ⟨w.heap.size + 1, k, none⟩ = some (.int .i64 0) := by
        have := hs.cell (i := k) (by omega)
        rw [if_neg (by omega)] at this
        exact this
      have c3 := hs.arr.free k
      have hcs := Lib.hid (cum_succ hok)
      have hcb := cum_bd y (m := k) (by omega) (by omega)
      have hdb := dim_bd y k
      have hS := Lib.hid hs
      clear hs
      go_wp2_with fail
      have e2 : 0 ≤ (k : Int) - 1 := by omega
      have e3 : (k : Int) - 1 < 13 := by omega
      have e5 : (k : Int) < 13 := by omega
      have e6 : 0 ≤ (k : Int) := by omega
      have e4 : ((k : Int) - 1).toNat = k - 1 := by omega
      have e1 : IntKind.i64.wrap ((k : Int) - 1) = (k : Int) - 1 := IntWalk.i64_in _ ⟨by omega, by omega⟩
      have e7 : (1 : Int) ≤ (k : Int) := by omega
      have hnext : Sums w y (k + 1) ((wr.setCell ⟨w.heap.size + 1, k, none⟩ (.int .i64 (IntKind.i64.wrap (cum y k + dim y k)))).drew) := by
        rw [IntWalk.i64_in _ ⟨by omega, by omega⟩, ← hcs.out]
        exact (hS.out.set (by omega)).drew
      have cnext : ((wr.setCell ⟨w.heap.size + 1, k, none⟩ (.int .i64 (IntKind.i64.wrap (cum y k + dim y k)))).drew).cell? ⟨w.heap.size + 1, k - 1, none⟩ = some (.int .i64 (cum y k)) := by
        have := hnext.cell (i := k - 1) (by omega)
        rw [if_pos (by omega)] at this
        rw [this]; congr 2; congr 1; omega
      have hN := Lib.hid hnext
      have cN := Lib.hid cnext
      clear hnext cnext
      go_region_held3 (fun w' => w'.cell? ⟨w.heap.size + 1, k - 1, none⟩ = some (.int .i64 (cum y k)) ∧ Below w.heap.size w w')
        (first | (exact ⟨by simpa using c1, hS.out.below.drew⟩) | assumption | (exact ⟨cN.out, hN.out.below⟩) | go_keep)
        (first | (go_at_call 24; refine (gdays_ok _ _ _ (by exact ht.below (And.right (by assumption))) hok).mono ?_; rintro e w' ⟨rfl, rfl⟩))
      clear e1 e2 e3 e4 e5 e6 e7 cN
      clear ‹_ ∧ Below _ _ _›
      generalize (wr.setCell ⟨w.heap.size + 1, k, none⟩ (.int .i64 (IntKind.i64.wrap (cum y k + dim y k)))).drew = w2 at *
      go_wp2
      go_roundw
      case rel => exact ⟨k + 1, by omega, by omega, by go_num, hN.out⟩
      case measure => simp [intOf]; omega
    · have e : k = 13 := by omega
      have hr := hs.res
      have ha := hs.arr
      rw [e, sumsArr_13] at ha
      have e13 : (13 : Int) ≤ (k : Int) := by omega
      clear e
      have hb := hs.below
      clear hs
      have hgt : 13 ≤ k := by omega
      clear hlt
      have q1 := ahead_info y
      have q2 : zeros13.size = (aheadArr y).size := rfl
      have q3 := ahead_cells y
      have q1 := Lib.hid q1
      have q2 := Lib.hid q2
      have q3 := Lib.hid q3
      go_wp2_with (first
        | (refine wpList_load_row (by rfl) _ _ (by rfl) (w.heap.size + 1) (by rfl) _ _ _ _ ha Tryd.underlying67 (by rfl) q1.out ?_)
        | (refine wpList_store_row (by rfl) _ _ _ (by rfl) w.heap.size (aheadArr y) (by rfl) (by rfl) _ _ hr q1.out q2.out q3.out ?_))
      refine bodyPost_ret (v := .agg (aheadArr y)) (results_cell_row rfl _ _ w.heap.size _ _ _ _ (by rfl) (hr.row (aheadArr y)) Tryd.underlying67 (by rfl) q1.out) (by rfl) ⟨rfl, below_setRow hb (Nat.le_refl _) _⟩

theorem gahead_at (y0 y : Int) (w : World) (e : y0 = y) (ht : Tab w) (h1 : 1 ≤ y) (h2 : y ≤ 9999) : Calls Tryd.prog 55 #[.int .i64 y0] w fun e w' => e = .returned (.agg (aheadArr y)) ∧ Below w.heap.size w w' := by
  subst e; exact gahead_any y0 w ht h1 h2

end Go.Proofs.YtdjfmcomeaijgaaDoor
