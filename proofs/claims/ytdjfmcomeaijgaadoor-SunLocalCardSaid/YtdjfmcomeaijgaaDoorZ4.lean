/- zone.when: a turn's instant in a year. -/
import Derived.Test.YtdjfmcomeaijgaaDoorZ3
import Derived.Test.YtdjfmcomeaijgaaDoorG3
namespace Go.Proofs.YtdjfmcomeaijgaaDoor
open Go.RowKit
set_option linter.unusedVariables false
set_option linter.unusedSimpArgs false

theorem nth_bd {y m : Int} (w k : Int) (h : OkM y m) : 0 ≤ (nthV y m w k).1 ∧ (nthV y m w k).1 ≤ 3652200 := by
  have f := fst_bd h
  have g := hit_bd (w := w) h
  have d := dim_ok h
  have db := dim_bd y m
  unfold nthV
  rw [if_pos h]
  split
  · split
    · dsimp only
      unfold lastW
      omega
    · split
      · rename_i a _ c
        obtain ⟨_, _, a⟩ := a
        dsimp only
        omega
      · simp
  · simp

/-- A turn's week, as Nth wants it. -/
def wk (k : Int) : Int := if k = 5 then -1 else k
/-- A turn's instant in a year. -/
def whenV (b m k d t y : Int) : Int := (nthV y m d (wk k)).1 * 1440 + t - b

set_option maxHeartbeats 1000000 in
theorem zwhen_ok (b s m k d t m' k' d' t' xm xk xd xt y : Int) (w : World) (ht : Tab w) (hy1 : 1 ≤ y) (hy2 : y ≤ 9999) (hx : tOk xm xk xd xt = true) (hb1 : -720 ≤ b) (hb2 : b ≤ 840) :
    Calls Tryd.prog 71 #[.agg #[.int .i64 b, .int .i64 s, .int .i64 m, .int .i64 k, .int .i64 d, .int .i64 t, .int .i64 m', .int .i64 k', .int .i64 d', .int .i64 t'], .agg #[.int .i64 xm, .int .i64 xk, .int .i64 xd, .int .i64 xt], .int .i64 y] w fun e w' => e = .returned (.int .i64 (whenV b xm xk xd xt y)) ∧ Below w.heap.size w w' := by
  have ho := tOk_iff.1 hx
  have HX := Lib.hid hx
  clear hx
  have kz := (BlockIs.new w #[.int .i64 b, .int .i64 s, .int .i64 m, .int .i64 k, .int .i64 d, .int .i64 t, .int .i64 m', .int .i64 k', .int .i64 d', .int .i64 t'] 49).alloc (.cells #[.int .i64 xm, .int .i64 xk, .int .i64 xd, .int .i64 xt] 47)
  have kx := BlockIs.new (w.alloc (.cells #[.int .i64 b, .int .i64 s, .int .i64 m, .int .i64 k, .int .i64 d, .int .i64 t, .int .i64 m', .int .i64 k', .int .i64 d', .int .i64 t'] 49)) #[.int .i64 xm, .int .i64 xk, .int .i64 xd, .int .i64 xt] 47
  rw [World.size_alloc] at kx
  have hA := ((Below.refl w.heap.size w).alloc (Nat.le_refl _) (.cells #[.int .i64 b, .int .i64 s, .int .i64 m, .int .i64 k, .int .i64 d, .int .i64 t, .int .i64 m', .int .i64 k', .int .i64 d', .int .i64 t'] 49)).alloc (by simp) (.cells #[.int .i64 xm, .int .i64 xk, .int .i64 xd, .int .i64 xt] 47)
  have ht1 := ht.below hA
  have nb := nth_bd xd (wk xk) (y := y) (m := xm) ⟨hy1, hy2, ho.1, ho.2.1⟩
  by_cases c : xk = 5
  · have hw := Lib.hid (show wk xk = -1 by unfold wk; rw [if_pos c])
    rw [hw.out] at nb
    have HV := Lib.hid (show whenV b xm xk xd xt y = (nthV y xm xd (-1)).1 * 1440 + xt - b by unfold whenV; rw [hw.out])
    have hc : (xk == 5) = true := beq_iff_eq.2 c
    clear c
    go_enter Tryd.func71, Tryd.ntmps71
    go_wp2_with fail
    refine (gnth_any _ _ _ _ _ ht1).mono ?_; rintro e w1 ⟨rfl, hb⟩
    have hB := Lib.hid (hA.trans (hb.mono hA.size))
    have q0 : w1.cell? ⟨w.heap.size, 0, none⟩ = some (.int .i64 b) := (kz.kept hb).cell rfl
    have q3 : w1.cell? ⟨w.heap.size + 1, 3, none⟩ = some (.int .i64 xt) := (kx.kept hb).cell rfl
    clear hb kz kx
    go_wp2
    go_ret
    exact ⟨one HV.out.symm, hB.out⟩
  · have hw := Lib.hid (show wk xk = xk by unfold wk; rw [if_neg c])
    rw [hw.out] at nb
    have HV := Lib.hid (show whenV b xm xk xd xt y = (nthV y xm xd xk).1 * 1440 + xt - b by unfold whenV; rw [hw.out])
    have hc : (xk == 5) = false := beq_eq_false_iff_ne.2 c
    clear c
    go_enter Tryd.func71, Tryd.ntmps71
    go_wp2_with fail
    refine (gnth_any _ _ _ _ _ ht1).mono ?_; rintro e w1 ⟨rfl, hb⟩
    have hB := Lib.hid (hA.trans (hb.mono hA.size))
    have q0 : w1.cell? ⟨w.heap.size, 0, none⟩ = some (.int .i64 b) := (kz.kept hb).cell rfl
    have q3 : w1.cell? ⟨w.heap.size + 1, 3, none⟩ = some (.int .i64 xt) := (kx.kept hb).cell rfl
    clear hb kz kx
    go_wp2
    go_ret
    exact ⟨one HV.out.symm, hB.out⟩

end Go.Proofs.YtdjfmcomeaijgaaDoor
