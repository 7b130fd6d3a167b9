/- zone.within, the test of a turn, and whether two turns hold one that may not be. -/
import Derived.Test.YtdjfmcomeaijgaaDoorZ0
namespace Go.Proofs.YtdjfmcomeaijgaaDoor
open Go.RowKit
set_option linter.unusedVariables false
set_option linter.unusedSimpArgs false

theorem boolE {a b : Bool} (h : a = b) : Ending.returned (.bool a) = Ending.returned (.bool b) := by rw [h]

set_option maxHeartbeats 400000 in
theorem zwithin_any (n a b : Int) (w : World) : Calls Tryd.prog 64 #[.int .i64 n, .int .i64 a, .int .i64 b] w fun e w' => e = .returned (.bool (decide (a ≤ n) && decide (n ≤ b))) ∧ w = w' := by
  go_enter Tryd.func64, Tryd.ntmps64
  go_wp2
  all_goals
    go_ret
    refine ⟨boolE ?_, rfl⟩
    simp [*] <;> omega

set_option maxHeartbeats 1000000 in
theorem todd_any (m k d t : Int) (w : World) : Calls Tryd.prog 63 #[.agg #[.int .i64 m, .int .i64 k, .int .i64 d, .int .i64 t]] w fun e w' => e = .returned (.bool (!tOk m k d t)) ∧ Below w.heap.size w w' := by
  have hB := (Below.refl w.heap.size w).alloc (Nat.le_refl _) (.cells #[.int .i64 m, .int .i64 k, .int .i64 d, .int .i64 t] 47)
  have HB := Lib.hid hB
  clear hB
  go_enter Tryd.func63, Tryd.ntmps63
  go_wp2_with (go_at_call 64; refine (zwithin_any _ _ _ _).mono ?_; rintro e w' ⟨rfl, rfl⟩)
  all_goals
    go_ret
    refine ⟨boolE ?_, HB.out⟩
    unfold tOk
    simp_all <;> omega

set_option maxHeartbeats 2000000 in
theorem tindex_ok (m k d t m' k' d' t' q : Int) (g : Nat) (w : World) (hq : (if tOk m k d t = false then 0 else if tOk m' k' d' t' = false then 1 else -1) = q) (hb : BlockIs w g #[.int .i64 m, .int .i64 k, .int .i64 d, .int .i64 t, .int .i64 m', .int .i64 k', .int .i64 d', .int .i64 t'] 47) :
    Calls Tryd.prog 70 #[.slice (some ⟨g, 0, none⟩) 2 2, .func (.func 63) #[] #[]] w fun e w' => e = .returned (.int .i64 q) ∧ Below w.heap.size w w' := by
  have HQ := Lib.hid hq
  clear hq
  go_enter Tryd.func70, Tryd.ntmps70
  go_wp2_with fail
  have c0 : w.cell? ⟨g, 0, none⟩ = some (.int .i64 m) := hb.cell rfl
  have c1 : w.cell? ⟨g, 1, none⟩ = some (.int .i64 k) := hb.cell rfl
  have c2 : w.cell? ⟨g, 2, none⟩ = some (.int .i64 d) := hb.cell rfl
  have c3 : w.cell? ⟨g, 3, none⟩ = some (.int .i64 t) := hb.cell rfl
  go_loopw [5, 8] (fun _ idx wr => (idx = .int .i64 0 ∧ w = wr) ∨ (∃ j : Int, idx = .int .i64 j ∧ (j = 1 ∨ j = 2) ∧ tOk m k d t = true ∧ (j = 2 → tOk m' k' d' t' = true) ∧ BlockIs wr g #[.int .i64 m, .int .i64 k, .int .i64 d, .int .i64 t, .int .i64 m', .int .i64 k', .int .i64 d', .int .i64 t'] 47 ∧ Below w.heap.size w wr)) (fun _ i _ => (2 - intOf i).toNat)
  case atStart => exact .inl ⟨rfl, rfl⟩
  case round =>
    rcases hrel with ⟨rfl, rfl⟩ | ⟨j, rfl, hj, ha, hbb, hbk, hB⟩
    · rcases (Bool.eq_false_or_eq_true (tOk m k d t)).symm with ha | ha
      · have HA := Lib.hid ha
        clear ha
        go_wp2_with fail
        refine (todd_any _ _ _ _ _).mono ?_; rintro e w1 ⟨rfl, hb1⟩
        rw [HA.out]
        go_wp2_with fail
        go_ret
        exact ⟨one (by rw [← HQ.out, if_pos HA.out]), hb1⟩
      · have HA := Lib.hid ha
        clear ha
        go_wp2_with fail
        refine (todd_any _ _ _ _ _).mono ?_; rintro e w1 ⟨rfl, hb1⟩
        rw [HA.out]
        have hbk := hb.kept hb1
        go_wp2_with fail
        go_round
        case rel => exact .inr ⟨1, rfl, .inl rfl, HA.out, fun h => by omega, hbk, hb1⟩
        case measure => simp [intOf]
    · have e0 : wr.cell? ⟨g, 4, none⟩ = some (.int .i64 m') := hbk.cell rfl
      have e1 : wr.cell? ⟨g, 5, none⟩ = some (.int .i64 k') := hbk.cell rfl
      have e2 : wr.cell? ⟨g, 6, none⟩ = some (.int .i64 d') := hbk.cell rfl
      have e3 : wr.cell? ⟨g, 7, none⟩ = some (.int .i64 t') := hbk.cell rfl
      have HA := Lib.hid ha
      clear ha
      rcases hj with rfl | rfl
      · rcases (Bool.eq_false_or_eq_true (tOk m' k' d' t')).symm with hb' | hb'
        · have HB := Lib.hid hb'
          clear hb' hbb
          go_wp2_with fail
          refine (todd_any _ _ _ _ _).mono ?_; rintro e w1 ⟨rfl, hb1⟩
          rw [HB.out]
          have hB1 := hB.trans (hb1.mono hB.size)
          go_wp2_with fail
          go_ret
          exact ⟨one (by rw [← HQ.out, if_neg (by rw [HA.out]; decide), if_pos HB.out]), hB1⟩
        · have HB := Lib.hid hb'
          clear hb' hbb
          go_wp2_with fail
          refine (todd_any _ _ _ _ _).mono ?_; rintro e w1 ⟨rfl, hb1⟩
          rw [HB.out]
          have hB1 := hB.trans (hb1.mono hB.size)
          have hbk1 := hbk.kept hb1
          go_wp2_with fail
          go_round
          case rel => exact .inr ⟨2, rfl, .inr rfl, HA.out, fun _ => HB.out, hbk1, hB1⟩
          case measure => simp [intOf]
      · have HB := Lib.hid (hbb rfl)
        clear hbb
        go_wp2_with fail
        go_ret
        exact ⟨one (by rw [← HQ.out, if_neg (by rw [HA.out]; decide), if_neg (by rw [HB.out]; decide)]), hB⟩

set_option maxHeartbeats 1000000 in
theorem tcontains_ok (m k d t m' k' d' t' : Int) (g : Nat) (w : World) (hb : BlockIs w g #[.int .i64 m, .int .i64 k, .int .i64 d, .int .i64 t, .int .i64 m', .int .i64 k', .int .i64 d', .int .i64 t'] 47) :
    Calls Tryd.prog 65 #[.slice (some ⟨g, 0, none⟩) 2 2, .func (.func 63) #[] #[]] w fun e w' => e = .returned (.bool (!(tOk m k d t && tOk m' k' d' t'))) ∧ Below w.heap.size w w' := by
  have hq : ∃ q : Int, (if tOk m k d t = false then 0 else if tOk m' k' d' t' = false then 1 else -1) = q ∧ decide (0 ≤ q) = !(tOk m k d t && tOk m' k' d' t') := by
    refine ⟨_, rfl, ?_⟩
    cases tOk m k d t <;> cases tOk m' k' d' t' <;> rfl
  obtain ⟨q, hq1, hq2⟩ := hq
  have H1 := Lib.hid hq1
  have H2 := Lib.hid hq2
  clear hq1 hq2
  go_enter Tryd.func65, Tryd.ntmps65
  go_wp2_with fail
  refine (tindex_ok _ _ _ _ _ _ _ _ q _ _ H1.out hb).mono ?_; rintro e w1 ⟨rfl, hb1⟩
  go_wp2_with fail
  go_ret
  exact ⟨boolE H2.out, hb1⟩

end Go.Proofs.YtdjfmcomeaijgaaDoor
