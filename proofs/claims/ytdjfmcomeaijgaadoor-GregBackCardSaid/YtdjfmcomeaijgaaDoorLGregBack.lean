/- GregBack: a date's number is that date's, and the other way round: the walk. -/
import Derived.Test.YtdjfmcomeaijgaaDoorG4
namespace Go.Proofs.YtdjfmcomeaijgaaDoor
open Go.RowKit
set_option linter.unusedVariables false
set_option linter.unusedSimpArgs false

/- The walk, from what the four calls come to. -/
set_option maxHeartbeats 2000000 in
theorem back_walk (y m d n a0 e0 b0 b1 b2 f0 o0 o1 o2 g0 r0 h0 : Int) (w : World) (ht : Tab w)
    (hD : dayV y m d = (a0, e0)) (hO : ofV a0 = (b0, b1, b2, f0)) (hO2 : ofV n = (o0, o1, o2, g0)) (hD2 : dayV o0 o1 o2 = (r0, h0))
    (k1 : (e0 = 0 ∧ f0 = 0 ∧ b0 = y ∧ b1 = m ∧ b2 = d) ∨ e0 = 20) (k2 : (g0 = 0 ∧ h0 = 0 ∧ r0 = n) ∨ g0 = 21) :
    Calls Tryd.prog 6 #[.agg #[.int .i64 y, .int .i64 m, .int .i64 d], .int .i64 n] w fun e w' => e = .returned (.bool true) ∧ Below w.heap.size w w' := by
  have hA := (Below.refl w.heap.size w).alloc (Nat.le_refl _) (.cells #[.int .i64 y, .int .i64 m, .int .i64 d] 23)
  have htA := ht.below hA
  have bA := BlockIs.new w #[.int .i64 y, .int .i64 m, .int .i64 d] 23
  have hV1 := Lib.hid hD
  have hV2 := Lib.hid hO
  have hV3 := Lib.hid hO2
  have hV4 := Lib.hid hD2
  clear hD hO hO2 hD2
  rcases k1 with ⟨rfl, rfl, rfl, rfl, rfl⟩ | rfl <;> rcases k2 with ⟨rfl, rfl, rfl⟩ | rfl
  all_goals
    go_enter Tryd.func6, Tryd.ntmps6
    go_wp2_with fail
    refine (gday_any _ _ _ _ htA).mono ?_; rintro e w1 ⟨rfl, hb1⟩
    rw [hV1.out]
    go_wp2_with fail
    refine (gof_any _ _ (htA.below hb1)).mono ?_; rintro e w2 ⟨rfl, hb2⟩
    rw [hV2.out]
    have ht2 := (htA.below hb1).below hb2
    have b2 := ((bA.kept hb1).kept hb2)
    have hB2 := below_two (hA.trans (hb1.mono (by simp))) hb2
    have c0 : w2.cell? ⟨w.heap.size, 0, none⟩ = _ := b2.cell rfl
    have c1 : w2.cell? ⟨w.heap.size, 1, none⟩ = _ := b2.cell rfl
    have c2 : w2.cell? ⟨w.heap.size, 2, none⟩ = _ := b2.cell rfl
    have hlt := b2.lt
    have hHB2 := Lib.hid hB2
    have hz2 := hB2.size
    clear hb1 hb2 hA htA bA hB2 b2
    go_wp2_with fail
    refine (gof_any _ _ (ht2.alloc _)).mono ?_; rintro e w3 ⟨rfl, hb3⟩
    rw [hV3.out]
    have ht3 := (ht2.alloc _).below hb3
    have hB3 := Lib.hid ((hHB2.out.alloc hz2 _).trans (hb3.mono (by simp; omega)))
    have hz3 := hB3.out.size
    clear c0 c1 c2 hb3
    go_wp2_with fail
    refine (gday_any _ _ _ _ (ht3.alloc _)).mono ?_; rintro e w4 ⟨rfl, hb4⟩
    rw [hV4.out]
    have ht4 := (ht3.alloc _).below hb4
    have hB4 := Lib.hid ((hB3.out.alloc hz3 _).trans (hb4.mono (by simp; omega)))
    clear hb4
    go_wp2_with fail
    refine (awake2 _ ht4).mono ?_; rintro e w5 ⟨rfl, hb5⟩
    have hB5 := Lib.hid (hB4.out.trans (hb5.mono hB4.out.size))
    clear hb5
    go_wp2
    go_ret
    exact ⟨rfl, hB5.out⟩

theorem walk_GregBack (y m d n : Int) (wy : (Lit.int .i64 y).wf = true) (wm : (Lit.int .i64 m).wf = true) (wd : (Lit.int .i64 d).wf = true) (wn : (Lit.int .i64 n).wf = true) (w : World) (ht : Tab w) :
    Calls Tryd.prog 6 #[.agg #[.int .i64 y, .int .i64 m, .int .i64 d], .int .i64 n] w fun e w' => e = .returned (.bool true) ∧ Below w.heap.size w w' := by
  have z1 : ofV 0 = (0, 0, 0, 21) := by unfold ofV; rw [if_neg (by omega)]
  have z2 : dayV 0 0 0 = (0, 20) := by unfold dayV; rw [if_neg may_zero]
  have q1 : ∃ a0 e0 b0 b1 b2 f0, dayV y m d = (a0, e0) ∧ ofV a0 = (b0, b1, b2, f0) ∧ ((e0 = 0 ∧ f0 = 0 ∧ b0 = y ∧ b1 = m ∧ b2 = d) ∨ e0 = 20) := by
    by_cases hm : May y m d
    · have ho := of_num hm
      exact ⟨_, _, y, m, d, 0, by unfold dayV; rw [if_pos hm], by unfold ofV; rw [if_pos (num_bd hm), ho.1, ho.2.1, ho.2.2], .inl ⟨rfl, rfl, rfl, rfl, rfl⟩⟩
    · exact ⟨_, _, _, _, _, _, by unfold dayV; rw [if_neg hm], z1, .inr rfl⟩
  have q2 : ∃ o0 o1 o2 g0 r0 h0, ofV n = (o0, o1, o2, g0) ∧ dayV o0 o1 o2 = (r0, h0) ∧ ((g0 = 0 ∧ h0 = 0 ∧ r0 = n) ∨ g0 = 21) := by
    by_cases hn : 1 ≤ n ∧ n ≤ 3652059
    · have om := of_may hn.1 hn.2
      exact ⟨_, _, _, _, _, _, by unfold ofV; rw [if_pos hn], by unfold dayV; rw [if_pos om.1, om.2], .inl ⟨rfl, rfl, rfl⟩⟩
    · exact ⟨_, _, _, _, _, _, by unfold ofV; rw [if_neg hn], z2, .inr rfl⟩
  obtain ⟨a0, e0, b0, b1, b2, f0, p1, p2, p3⟩ := q1
  obtain ⟨o0, o1, o2, g0, r0, h0, p4, p5, p6⟩ := q2
  exact back_walk y m d n a0 e0 b0 b1 b2 f0 o0 o1 o2 g0 r0 h0 w ht p1 p2 p4 p5 p3 p6

end Go.Proofs.YtdjfmcomeaijgaaDoor
