/- GregTells: leap years, months, weekdays, and any date's number are the document's: the walk. -/
import Derived.Test.YtdjfmcomeaijgaaDoorG4
import Derived.Test.YtdjfmcomeaijgaaDoorGR
namespace Go.Proofs.YtdjfmcomeaijgaaDoor
open Go.RowKit
set_option linter.unusedVariables false
set_option linter.unusedSimpArgs false

set_option maxHeartbeats 2000000 in
theorem walk_GregTells (y m d n : Int) (wy : (Lit.int .i64 y).wf = true) (wm : (Lit.int .i64 m).wf = true) (w0 : (Lit.int .i64 d).wf = true) (wn : (Lit.int .i64 n).wf = true) (w : World) (ht : Tab w) :
    Calls Tryd.prog 3 #[.agg #[.int .i64 y, .int .i64 m, .int .i64 d], .int .i64 n] w fun e w' => e = .returned (.bool true) ∧ Below w.heap.size w w' := by
  have hI := i64_of wn
  clear wy wm w0 wn
  have hA := (Below.refl w.heap.size w).alloc (Nat.le_refl _) (.cells #[.int .i64 y, .int .i64 m, .int .i64 d] 23)
  have htA := ht.below hA
  have bA := BlockIs.new w #[.int .i64 y, .int .i64 m, .int .i64 d] 23
  have k1 : (lpB y != lpB y) = false := by simp
  have k2 : (dim y m != dim y m) = false := by simp
  have k3 : (n % 7 != n % 7) = false := by simp
  by_cases hm : May y m d
  · go_enter Tryd.func3, Tryd.ntmps3
    go_wp2_with fail
    refine (gday_ok _ _ _ _ htA hm).mono ?_; rintro e w1 ⟨rfl, hb1⟩
    have ht1 := htA.below hb1
    have b1 := bA.kept hb1
    have c0 : w1.cell? ⟨w.heap.size, 0, none⟩ = some (.int .i64 y) := b1.cell rfl
    have c1 : w1.cell? ⟨w.heap.size, 1, none⟩ = some (.int .i64 m) := b1.cell rfl
    have c2 : w1.cell? ⟨w.heap.size, 2, none⟩ = some (.int .i64 d) := b1.cell rfl
    have hB1 := hA.trans (hb1.mono (by simp))
    clear hA htA hb1 bA
    go_wp2_with fail
    go_quiet ((first
      | (go_at_call 22; exact quiet_left (gleap_any _ _))
      | (go_at_call 23; exact quiet_left (rgleap_any _ _))
      | (go_at_call 24; exact quiet_left (gdays_any _ _ _ (Tab.drewN (by assumption) _)))
      | (go_at_call 25; exact quiet_left (rgdays_any _ _ _))
      | (go_at_call 26; exact quiet_left (weekday_any _ _ hI))
      | (go_at_call 27; exact quiet_left (rweekday_any _ _ hI))))
    go_wp2_with fail
    refine (rgmay_yes _ _ _ _ hm).mono ?_; rintro e w2 ⟨rfl, hb2⟩
    have ht2 := (ht1.drewN nq).below hb2
    have b2 := (b1.drewN nq).kept hb2
    have hB2 := (below_drewN hB1 nq).trans (hb2.mono hB1.size)
    clear c0 c1 c2 hb2 ht1 b1 hB1
    go_wp2_with fail
    refine (awake2 _ ht2).mono ?_; rintro e w3 ⟨rfl, hb3⟩
    have b3 := b2.kept hb3
    have c0 : w3.cell? ⟨w.heap.size, 0, none⟩ = some (.int .i64 y) := b3.cell rfl
    have c1 : w3.cell? ⟨w.heap.size, 1, none⟩ = some (.int .i64 m) := b3.cell rfl
    have c2 : w3.cell? ⟨w.heap.size, 2, none⟩ = some (.int .i64 d) := b3.cell rfl
    have hB3 := hB2.trans (hb3.mono hB2.size)
    clear hb3 ht2 b2 hB2 b3
    go_wp2_with fail
    refine (rgday_any _ _ _ _ hm).mono ?_; rintro e w4 ⟨rfl, hb4⟩
    have hB := Lib.hid (hB3.trans (hb4.mono hB3.size))
    clear hb4 hB3 c0 c1 c2
    go_wp2
    go_ret
    exact ⟨rfl, hB.out⟩
  · go_enter Tryd.func3, Tryd.ntmps3
    go_wp2_with fail
    refine (gday_no _ _ _ _ htA hm).mono ?_; rintro e w1 ⟨rfl, hb1⟩
    have ht1 := htA.below hb1
    have b1 := bA.kept hb1
    have c0 : w1.cell? ⟨w.heap.size, 0, none⟩ = some (.int .i64 y) := b1.cell rfl
    have c1 : w1.cell? ⟨w.heap.size, 1, none⟩ = some (.int .i64 m) := b1.cell rfl
    have c2 : w1.cell? ⟨w.heap.size, 2, none⟩ = some (.int .i64 d) := b1.cell rfl
    have hB1 := hA.trans (hb1.mono (by simp))
    clear hA htA hb1 bA
    go_wp2_with fail
    go_quiet ((first
      | (go_at_call 22; exact quiet_left (gleap_any _ _))
      | (go_at_call 23; exact quiet_left (rgleap_any _ _))
      | (go_at_call 24; exact quiet_left (gdays_any _ _ _ (Tab.drewN (by assumption) _)))
      | (go_at_call 25; exact quiet_left (rgdays_any _ _ _))
      | (go_at_call 26; exact quiet_left (weekday_any _ _ hI))
      | (go_at_call 27; exact quiet_left (rweekday_any _ _ hI))))
    go_wp2_with fail
    refine (rgmay_no _ _ _ _ hm).mono ?_; rintro e w2 ⟨rfl, hb2⟩
    have ht2 := (ht1.drewN nq).below hb2
    have hB2 := (below_drewN hB1 nq).trans (hb2.mono hB1.size)
    clear c0 c1 c2 hb2 ht1 b1 hB1
    go_wp2_with fail
    refine (awake2 _ ht2).mono ?_; rintro e w3 ⟨rfl, hb3⟩
    have hB := Lib.hid (hB2.trans (hb3.mono hB2.size))
    clear hb3 ht2 hB2
    go_wp2
    go_ret
    exact ⟨rfl, hB.out⟩

end Go.Proofs.YtdjfmcomeaijgaaDoor
