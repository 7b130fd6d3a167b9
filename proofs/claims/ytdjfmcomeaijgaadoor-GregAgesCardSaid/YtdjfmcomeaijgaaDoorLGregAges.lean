/- GregAges: 400 years later there are 146097 days more, and the weekday is the same: the walk. -/
import Derived.Test.YtdjfmcomeaijgaaDoorG4
namespace Go.Proofs.YtdjfmcomeaijgaaDoor
open Go.RowKit
set_option linter.unusedVariables false
set_option linter.unusedSimpArgs false

theorem lpB_400 (y : Int) : lpB (y + 400) = lpB y := by
  unfold lpB
  rw [show (y + 400) % 4 = y % 4 from by omega, show (y + 400) % 100 = y % 100 from by omega, show (y + 400) % 400 = y % 400 from by omega]
theorem lp_400 (y : Int) : lp (y + 400) = lp y := by unfold lp; rw [lpB_400]
theorem dim_400 {y m : Int} (h : OkM y m) (h2 : y ≤ 9599) : dim (y + 400) m = dim y m := by
  have h' : OkM (y + 400) m := by unfold OkM at *; omega
  unfold dim; rw [if_pos h, if_pos h', lp_400]
theorem num_400 (y m d : Int) : num (y + 400) m d = num y m d + 146097 := by
  unfold num cum; rw [lp_400]
  unfold bef
  split <;> omega
theorem may_400 {y m d : Int} (h : May y m d) (h2 : y ≤ 9599) : May (y + 400) m d := by
  have := dim_400 (okM_of h) h2
  unfold May at *; omega

set_option maxHeartbeats 2000000 in
theorem walk_GregAges (y m d : Int) (wy : (Lit.int .i64 y).wf = true) (wm : (Lit.int .i64 m).wf = true) (wd : (Lit.int .i64 d).wf = true) (w : World) (ht : Tab w) :
    Calls Tryd.prog 8 #[.agg #[.int .i64 y, .int .i64 m, .int .i64 d]] w fun e w' => e = .returned (.bool true) ∧ Below w.heap.size w w' := by
  clear wm wd
  have hA := (Below.refl w.heap.size w).alloc (Nat.le_refl _) (.cells #[.int .i64 y, .int .i64 m, .int .i64 d] 23)
  have htA := ht.below hA
  have bA := BlockIs.new w #[.int .i64 y, .int .i64 m, .int .i64 d] 23
  by_cases hm : May y m d
  · by_cases hy : 9599 < y
    · go_enter Tryd.func8, Tryd.ntmps8
      go_wp2_with fail
      refine (gday_ok _ _ _ _ htA hm).mono ?_; rintro e w1 ⟨rfl, hb1⟩
      have b1 := bA.kept hb1
      have c0 : w1.cell? ⟨w.heap.size, 0, none⟩ = some (.int .i64 y) := b1.cell rfl
      go_wp2_with fail
      refine (awake2 _ (htA.below hb1)).mono ?_; rintro e w2 ⟨rfl, hb2⟩
      go_wp2
      go_ret
      exact ⟨rfl, below_two (hA.trans (hb1.mono (by simp))) hb2⟩
    · have hy : y ≤ 9599 := by omega
      have hm4 := may_400 hm hy
      have hi := may_in hm
      have e4 := num_400 y m d
      have nb := num_bd hm
      have nb4 := num_bd hm4
      have hsub : (num (y + 400) m d - num y m d == 146097) = true := by rw [beq_iff_eq]; omega
      have hsub2 : (IntKind.i64.wrap (num (y + 400) m d - num y m d) == 146097) = true := by rw [beq_iff_eq, IntWalk.i64_in _ ⟨by omega, by omega⟩]; omega
      have hwk : (num y m d % 7 == num (y + 400) m d % 7) = true := by rw [beq_iff_eq]; omega
      have E4 := Lib.hid (lpB_400 y)
      have e5 : IntKind.i64.wrap (y + 400) = y + 400 := IntWalk.i64_in _ ⟨by omega, by omega⟩
      clear e4
      go_enter Tryd.func8, Tryd.ntmps8
      go_wp2_with fail
      refine (gday_ok _ _ _ _ htA hm).mono ?_; rintro e w1 ⟨rfl, hb1⟩
      have b1 := bA.kept hb1
      have c0 : w1.cell? ⟨w.heap.size, 0, none⟩ = some (.int .i64 y) := b1.cell rfl
      have c1 : w1.cell? ⟨w.heap.size, 1, none⟩ = some (.int .i64 m) := b1.cell rfl
      have c2 : w1.cell? ⟨w.heap.size, 2, none⟩ = some (.int .i64 d) := b1.cell rfl
      go_wp2_with fail
      refine (gday_ok _ _ _ _ (htA.below hb1) hm4).mono ?_; rintro e w2 ⟨rfl, hb2⟩
      have hB2 := Lib.hid (below_two (hA.trans (hb1.mono (by simp))) hb2)
      have ht2 := (htA.below hb1).below hb2
      have b2 := b1.kept hb2
      clear c0 c1 c2
      have c0 : w2.cell? ⟨w.heap.size, 0, none⟩ = some (.int .i64 y) := b2.cell rfl
      have hlt := b2.lt
      have hBl := Lib.hid hB2.out.size
      clear hb1 hb2 htA hA bA b1 b2
      have HT := Lib.hid (show ∀ W', Below w2.heap.size w2 W' → Tab W' from fun W' h => ht2.below h)
      go_wp2_with fail
      go_region_held3 (fun w' => w'.cell? ⟨w.heap.size, 0, none⟩ = some (.int .i64 y) ∧ Below w2.heap.size w2 w')
        (first
          | (exact ⟨c0, (Below.refl _ _).drew⟩)
          | assumption
          | (refine keepS (by assumption) hb3 hlt (Nat.le_refl _))
          | go_keep)
        (first
          | (go_at_call 29; refine (awake2 _ (by exact HT.out _ (And.right (by assumption)))).mono ?_; rintro e w3 ⟨rfl, hb3⟩)
          | (go_at_call 26; refine (weekday_any _ _ (by unfold I64; omega)).mono ?_; rintro e w' ⟨rfl, rfl⟩)
          | (go_at_call 22; refine (gleap_any _ _).mono ?_; rintro e w' ⟨rfl, rfl⟩))
      go_wp2
      go_ret
      obtain ⟨_, hh⟩ := ‹w3.cell? _ = _ ∧ Below _ _ _›
      refine ⟨?_, hB2.out.trans (hh.mono hBl.out)⟩
      have h4 := E4.out
      simp [h4]
  · go_enter Tryd.func8, Tryd.ntmps8
    go_wp2_with fail
    refine (gday_no _ _ _ _ htA hm).mono ?_; rintro e w1 ⟨rfl, hb1⟩
    go_wp2_with fail
    refine (awake2 _ (htA.below hb1)).mono ?_; rintro e w2 ⟨rfl, hb2⟩
    go_wp2
    go_ret
    exact ⟨rfl, below_two (hA.trans (hb1.mono (by simp))) hb2⟩

end Go.Proofs.YtdjfmcomeaijgaaDoor
