/- feast.Kind, feast.Rest, feast.Run. -/
import Derived.Test.YtdjfmcomeaijgaaFG
namespace Go.Proofs.Ytdjfmcomeaijgaa
open Go Go.RowKit
set_option linter.unusedVariables false
set_option linter.unusedSimpArgs false

theorem wf64 {n : Int} (h : I64 n) : (Lit.int .i64 n).wf = true := by
  unfold I64 at h
  simp [Lit.wf, IntKind.min, IntKind.max, IntKind.signed, IntKind.bits]
  omega
theorem may_wf {h m d : Int} (c : HMay h m d) : (Lit.int .i64 m).wf = true ∧ (Lit.int .i64 d).wf = true := by
  obtain ⟨_, m1, m2, d1, d2⟩ := c.yr
  exact ⟨wf64 (by unfold I64; omega), wf64 (by unfold I64; omega)⟩

set_option maxHeartbeats 1000000 in
theorem fKind_any (n k : Int) (ab : Bool) (w : World) (hk : KindN n ab k) : Calls Try.prog 48 #[.int .i64 n, .bool ab] w fun e w' => e = .returned (.int .i64 k) ∧ Below w.heap.size w w' := by
  rcases hk with ⟨c, rfl⟩ | ⟨h, m, d, c, e, hk⟩
  · have C := Lib.hid c
    clear c
    go_enter Try.func48, Try.ntmps48
    go_wp2_with fail
    refine (hof_no _ _ C.out).mono ?_; rintro e w1 ⟨rfl, hb⟩
    go_wp2
    go_ret
    exact ⟨rfl, hb.alloc hb.size _⟩
  · obtain ⟨v1, v2⟩ := may_wf c
    go_enter Try.func48, Try.ntmps48
    go_wp2_with fail
    refine (hof_at _ c e).mono ?_; rintro e w1 ⟨rfl, hb⟩
    have hB := hb.alloc hb.size (.cells #[.int .i64 h, .int .i64 m, .int .i64 d] 36)
    have k1 := BlockIs.new w1 #[.int .i64 h, .int .i64 m, .int .i64 d] 36
    have z0 := k1.cell (i := 0) (v := .int .i64 h) rfl
    have z1 := k1.cell (i := 1) (v := .int .i64 m) rfl
    have z2 := k1.cell (i := 2) (v := .int .i64 d) rfl
    go_wp2_with fail
    refine (fkind_ok _ _ _ k ab _ v1 v2 hk).mono ?_; rintro e w2 ⟨rfl, hb2⟩
    have HB := Lib.hid (hB.trans (hb2.mono hB.size))
    clear hb hB k1 hb2 z0 z1 z2
    go_wp2
    go_ret
    exact ⟨rfl, HB.out⟩

set_option maxHeartbeats 1000000 in
theorem fRest_any (n : Int) (ab r : Bool) (w : World) (hn : I64 n) (hr : r = true ↔ RestP n ab) : Calls Try.prog 50 #[.int .i64 n, .bool ab] w fun e w' => e = .returned (.bool r) ∧ Below w.heap.size w w' := by
  obtain ⟨k, hk, _⟩ := kindN_ex n ab
  have hrk := rest_kind hk
  rcases hk with ⟨c, rfl⟩ | ⟨h, m, d, c, e, hk⟩
  · have r0 : r = false := by
      rcases Bool.eq_false_or_eq_true r with x | x
      · exact absurd (hr.1 x) (restP_no c ab)
      · exact x
    subst r0
    have C := Lib.hid c
    clear c hr hrk
    go_enter Try.func50, Try.ntmps50
    go_wp2_with fail
    refine (hof_no _ _ C.out).mono ?_; rintro e w1 ⟨rfl, hb⟩
    go_wp2
    go_ret
    exact ⟨rfl, hb.alloc hb.size _⟩
  · obtain ⟨v1, v2⟩ := may_wf c
    have hl := hnum_last c
    have hr2 : r = true ↔ (n % 7 = 6 ∨ k ≠ 0) := by rw [hr, hrk]; constructor; exact fun x => x.2; exact fun x => ⟨by omega, x⟩
    clear hr hrk
    by_cases c6 : n % 7 = 6
    · have r1 : r = true := hr2.2 (.inl c6)
      subst r1
      have h6 : (n % 7 == 6) = true := beq_iff_eq.2 c6
      clear hr2 c6
      go_enter Try.func50, Try.ntmps50
      go_wp2_with fail
      refine (hof_at _ c e).mono ?_; rintro e w1 ⟨rfl, hb⟩
      have hB := Lib.hid (hb.alloc hb.size (.cells #[.int .i64 h, .int .i64 m, .int .i64 d] 36))
      go_wp2_with fail
      refine (weekday_any _ _ hn).mono ?_; rintro e w' ⟨rfl, rfl⟩
      go_wp2_with fail
      go_ret
      exact ⟨rfl, hB.out⟩
    · have h6 : (n % 7 == 6) = false := beq_eq_false_iff_ne.2 c6
      have hr3 : r = (k != 0) := by
        rcases Bool.eq_false_or_eq_true r with x | x
        · rw [x]; have := hr2.1 x; simp; omega
        · rw [x]
          have : k = 0 := by
            refine Classical.byContradiction fun q => ?_
            have := hr2.2 (.inr q)
            rw [x] at this; cases this
          rw [this]; rfl
      subst hr3
      clear hr2 c6
      go_enter Try.func50, Try.ntmps50
      go_wp2_with fail
      refine (hof_at _ c e).mono ?_; rintro e w1 ⟨rfl, hb⟩
      have hB := hb.alloc hb.size (.cells #[.int .i64 h, .int .i64 m, .int .i64 d] 36)
      have k1 := BlockIs.new w1 #[.int .i64 h, .int .i64 m, .int .i64 d] 36
      have z0 := k1.cell (i := 0) (v := .int .i64 h) rfl
      have z1 := k1.cell (i := 1) (v := .int .i64 m) rfl
      have z2 := k1.cell (i := 2) (v := .int .i64 d) rfl
      clear k1
      go_wp2_with fail
      refine (weekday_any _ _ hn).mono ?_; rintro e w' ⟨rfl, rfl⟩
      go_wp2_with fail
      refine (fkind_ok _ _ _ k ab _ v1 v2 hk).mono ?_; rintro e w2 ⟨rfl, hb2⟩
      have HB := Lib.hid (hB.trans (hb2.mono hB.size))
      clear hb hB hb2 z0 z1 z2
      go_wp2
      go_ret
      exact ⟨rfl, HB.out⟩

theorem fRest_yes (n : Int) (ab : Bool) (w : World) (hn : I64 n) (hr : RestP n ab) : Calls Try.prog 50 #[.int .i64 n, .bool ab] w fun e w' => e = .returned (.bool true) ∧ Below w.heap.size w w' :=
  fRest_any n ab true w hn ⟨fun _ => hr, fun _ => rfl⟩
theorem fRest_no (n : Int) (ab : Bool) (w : World) (hn : I64 n) (hr : ¬ RestP n ab) : Calls Try.prog 50 #[.int .i64 n, .bool ab] w fun e w' => e = .returned (.bool false) ∧ Below w.heap.size w w' :=
  fRest_any n ab false w hn ⟨fun x => (nomatch x), fun x => absurd x hr⟩

set_option maxHeartbeats 1000000 in
theorem fend_any (n by' at' : Int) (ab : Bool) (bn ba : Nat) (w : World) (hN : BlockIs w bn #[.int .i64 n] 3) (hA : BlockIs w ba #[.bool ab] 4) (j : Nat) (hj : j ≤ 3) (hat : at' = n + j * by') (hby : by' = 1 ∨ by' = -1) (hn : -3000000 ≤ n ∧ n ≤ 5000000)
    (hin : ∀ i : Nat, 1 ≤ i → i ≤ j → RestP (n + i * by') ab) (hout : ¬ RestP (at' + by') ab) :
    Calls Try.prog 73 #[.int .i64 by', .pointer (some ⟨bn, 0, none⟩), .pointer (some ⟨ba, 0, none⟩)] w fun e w' => e = .returned (.int .i64 at') ∧ Below w.heap.size w w' := by
  have n0 : w.cell? ⟨bn, 0, none⟩ = some (.int .i64 n) := hN.cell rfl
  have HI := Lib.hid hin
  have HO := Lib.hid hout
  have HT := Lib.hid hat
  clear hin hout hat
  go_enter Try.func73, Try.ntmps73
  go_wp2_with fail
  go_loopw [5] (fun x wr => ∃ i : Nat, i ≤ j ∧ x = .int .i64 (n + i * by') ∧ BlockIs wr ba #[.bool ab] 4 ∧ Below w.heap.size w wr) (fun x _ => (if by' = 1 then (n + j - intOf x).toNat else (intOf x - n + j).toNat))
  case atStart => exact ⟨0, by omega, by simp, hA, Below.refl _ _⟩
  case round =>
    obtain ⟨i, hi, rfl, hA, hB⟩ := hrel
    have a0 : wr.cell? ⟨ba, 0, none⟩ = some (.bool ab) := hA.cell rfl
    have hby2 : (i : Int) * by' = i ∨ (i : Int) * by' = -i := by rcases hby with e | e <;> subst e <;> omega
    have hs : ((i + 1 : Nat) : Int) * by' = i * by' + by' := by rcases hby with e | e <;> subst e <;> omega
    have hS := Lib.hid hs
    have hsum := Lib.hid (show n + (i : Int) * by' + by' = n + ((i + 1 : Nat) : Int) * by' by rw [hs]; omega)
    generalize hX : n + (i : Int) * by' = X at *
    have hx1 : -3000010 ≤ X := by omega
    have hx2 : X ≤ 5000010 := by omega
    by_cases c : i < j
    · have hr := Lib.hid (show RestP (X + by') ab by rw [hsum.out]; exact HI.out (i + 1) (by omega) (by omega))
      clear hs
      rcases hby with rfl | rfl
      all_goals
        go_wp2_with fail
        refine (fRest_yes _ ab _ (by unfold I64; omega) hr.out).mono ?_; rintro e w2 ⟨rfl, hb⟩
        have hA2 := hA.kept hb
        have hB2 := hB.trans (hb.mono hB.size)
        clear hb
        go_wp2_with fail
        go_round
        case rel => exact ⟨i + 1, by omega, by rw [← hsum.out], hA2, hB2⟩
        case measure => simp [intOf]; omega
    · have e : i = j := by omega
      subst e
      have hq : X = at' := by rw [← hX, HT.out]
      have hr := Lib.hid (show ¬ RestP (X + by') ab by rw [hq]; exact HO.out)
      have hX2 := Lib.hid hq
      clear hs hq
      rcases hby with rfl | rfl
      all_goals
        go_wp2_with fail
        refine (fRest_no _ ab _ (by unfold I64; omega) hr.out).mono ?_; rintro e w2 ⟨rfl, hb⟩
        have hB2 := Lib.hid (hB.trans (hb.mono hB.size))
        clear hb
        go_wp2
        go_ret
        exact ⟨one hX2.out, hB2.out⟩

theorem restP_bd {n : Int} {ab : Bool} (h : RestP n ab) : -2000000 ≤ n ∧ n ≤ 4000000 := by
  obtain ⟨h', m, d, c, e, _⟩ := h
  have l := hnum_last c
  have b1 := ny_bd 3762 (by omega) (by omega)
  have b2 := ny_bd 9999 (by omega) (by omega)
  have b3 := ylen_bd (h := 9999) ⟨by omega, by omega⟩
  omega

set_option maxHeartbeats 1000000 in
theorem fRun_no (n : Int) (ab : Bool) (w : World) (hn : I64 n) (hr : ¬ RestP n ab) : Calls Try.prog 55 #[.int .i64 n, .bool ab] w fun e w' => e = .returned (.tuple #[.int .i64 0, .int .i64 0, .int .i64 51]) ∧ Below w.heap.size w w' := by
  have HR := Lib.hid hr
  clear hr
  go_enter Try.func55, Try.ntmps55
  go_wp2_with fail
  have hA := ((Below.refl w.heap.size w).alloc (Nat.le_refl _) (.cells #[.int .i64 n] 3)).alloc (by simp) (.cells #[.bool ab] 4)
  refine (fRest_no _ ab _ hn HR.out).mono ?_; rintro e w1 ⟨rfl, hb⟩
  have HB := Lib.hid (hA.trans (hb.mono hA.size))
  clear hA hb
  go_wp2
  go_ret3
  exact ⟨rfl, HB.out⟩

set_option maxHeartbeats 1000000 in
theorem fRun_ok (n a b : Int) (ab : Bool) (w : World) (h1 : a ≤ n) (h2 : n ≤ b) (h3 : b - a ≤ 2) (hin : ∀ x, a ≤ x → x ≤ b → RestP x ab) (ha : ¬ RestP (a - 1) ab) (hb : ¬ RestP (b + 1) ab) :
    Calls Try.prog 55 #[.int .i64 n, .bool ab] w fun e w' => e = .returned (.tuple #[.int .i64 a, .int .i64 b, .int .i64 0]) ∧ Below w.heap.size w w' := by
  have hr := hin n h1 h2
  have bd := restP_bd hr
  have HR := Lib.hid hr
  have HI := Lib.hid hin
  have HA := Lib.hid ha
  have HB0 := Lib.hid hb
  clear hr hin ha hb
  go_enter Try.func55, Try.ntmps55
  go_wp2_with fail
  have hA := ((Below.refl w.heap.size w).alloc (Nat.le_refl _) (.cells #[.int .i64 n] 3)).alloc (by simp) (.cells #[.bool ab] 4)
  have kN := (BlockIs.new w #[.int .i64 n] 3).alloc (.cells #[.bool ab] 4)
  have kA := BlockIs.new (w.alloc (.cells #[.int .i64 n] 3)) #[.bool ab] 4
  rw [World.size_alloc] at kA
  refine (fRest_yes _ ab _ (by unfold I64; omega) HR.out).mono ?_; rintro e w1 ⟨rfl, hb⟩
  have hB1 := hA.trans (hb.mono hA.size)
  have kN1 := kN.kept hb
  have kA1 := kA.kept hb
  clear hA hb kN kA
  go_wp2_with fail
  refine (fend_any n (-1) a ab _ _ _ kN1 kA1 (n - a).toNat (by omega) (by omega) (.inr rfl) ⟨by omega, by omega⟩ (fun i i1 i2 => HI.out _ (by omega) (by omega)) (by rw [show a + -1 = a - 1 by omega]; exact HA.out)).mono ?_; rintro e w2 ⟨rfl, hb⟩
  have hB2 := hB1.trans (hb.mono hB1.size)
  have kN2 := kN1.kept hb
  have kA2 := kA1.kept hb
  clear hB1 hb kN1 kA1
  go_wp2_with fail
  refine (fend_any n 1 b ab _ _ _ kN2 kA2 (b - n).toNat (by omega) (by omega) (.inl rfl) ⟨by omega, by omega⟩ (fun i i1 i2 => HI.out _ (by omega) (by omega)) HB0.out).mono ?_; rintro e w3 ⟨rfl, hb⟩
  have HB := Lib.hid (hB2.trans (hb.mono hB2.size))
  clear hB2 hb kN2 kA2
  go_wp2
  go_ret3
  exact ⟨rfl, HB.out⟩

end Go.Proofs.Ytdjfmcomeaijgaa
