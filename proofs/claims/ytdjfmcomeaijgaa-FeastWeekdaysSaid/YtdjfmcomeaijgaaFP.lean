/- The reference's List; the example of chapter 5. -/
import Derived.Test.YtdjfmcomeaijgaaFO
namespace Go.Proofs.Ytdjfmcomeaijgaa
open Go Go.RowKit
set_option linter.unusedVariables false
set_option linter.unusedSimpArgs false

theorem grown_none2 {w w' : World} (h : Below w.heap.size w w') : w.grownBy w' none := ⟨h.os, h.tape, h.output, h.size, fun k hk _ => h.block k hk⟩

set_option maxRecDepth 100000 in
set_option maxHeartbeats 2000000 in
theorem rflist_own (h L y : Int) (ab : Bool) (w : World) (hy : Yr h) (hL : ylen h = L) (hY : ny h = y) :
    Calls Try.prog 54 #[.int .i64 h, .bool ab] w fun e w' => ∃ out n, e = .returned out ∧ w'.ownsRow w.heap.size 56 2 out n (rcells L y ab 280) ∧ Below w.heap.size w w' := by
  obtain ⟨i0, hi, hq0, hq1, hq2⟩ := info_parts feast_info
  have lb := ylen_bd hy
  obtain ⟨lb1, lb2⟩ := lb
  have nb := ny_bd h (by have := hy.1; omega) (by have := hy.2; omega)
  obtain ⟨nb1, nb2⟩ := nb
  go_enter Try.func54, Try.ntmps54
  go_wp2_with fail
  refine (rnewyear_any _ _ (by have := hy.1; omega) (by have := hy.2; omega)).mono ?_; rintro e w0 ⟨rfl, hb0⟩
  rw [hY]
  go_wp2_with fail
  have KA := fun (j : Nat) (hj : j < 280) => (kind_at hy (i := (j : Int)) (by omega) (by omega) ab).1
  rw [hL, hY] at KA
  rw [hL] at lb1 lb2
  rw [hY] at nb1 nb2
  clear hy hL hY
  have hown := World.ownsRow_nil w0 w.heap.size 56 2
  go_loopw [5, 7, 8] (fun out x _ wr => ∃ j n : Nat, j ≤ 280 ∧ n ≤ j ∧ x = .int .i64 (j : Int) ∧ wr.ownsRow w.heap.size 56 2 out n (rcells L y ab j) ∧ Below w.heap.size w wr) (fun _ x _ _ => (280 - intOf x).toNat)
  case atStart => exact ⟨0, 0, by omega, by omega, rfl, hown, hb0⟩
  case round =>
    clear hown
    obtain ⟨j, n, hj, hn, rfl, hown, hB⟩ := hrel
    have hz := hB.size
    by_cases c : j < 280
    · have hk := KA j c
      have hk := Lib.hid hk
      clear KA
      have kx : 0 ≤ offK L (j : Int) ab ∧ offK L (j : Int) ab ≤ 7 := by unfold offK; repeat' split <;> omega
      obtain ⟨kx1, kx2⟩ := kx
      by_cases c0 : offK L (j : Int) ab = 0
      · have HC := Lib.hid c0
        rw [c0] at hk
        clear c0 kx1 kx2
        go_wp2_with fail
        refine (rfKind_any _ 0 ab _ hk.out).mono ?_; rintro e w2 ⟨rfl, hb⟩
        have h2 := hown.kept (grown_none2 hb) (Classical.em _)
        have hB2 := hB.trans (hb.mono hB.size)
        clear hb
        go_wp2
        go_round
        case rel => exact ⟨j + 1, n, by omega, by omega, by go_num, by rw [rcells_no HC.out]; exact h2, hB2⟩
        case measure => simp [intOf]; omega
      · have HC := Lib.hid (rcells_yes (y := y) c0)
        have hne : (offK L (j : Int) ab != 0) = true := by simpa using c0
        generalize offK L (j : Int) ab = K at *
        clear c0
        go_wp2_with fail
        refine (rfKind_any _ K ab _ hk.out).mono ?_; rintro e w2 ⟨rfl, hb⟩
        have h2 := hown.kept (grown_none2 hb) (Classical.em _)
        have hB2 := hB.trans (hb.mono hB.size)
        have hz2 := hB2.size
        clear hb hown
        go_wp2_with (first | (at_builtin; refine wpList_append_lies _ rfl (.tmp 22) (.tmp 28) 46 rfl w.heap.size 56 i0 (.agg #[.int .i64 0, .int .i64 0]) 2 16 Try.underlying46 hi hq0 hq1 hq2 rfl (by decide) _ n _ rfl (h2.alloc _) ⟨w2.heap.size, 0, none⟩ 1 1 [.int .i64 K, .int .i64 (y + (j : Int))] rfl rfl (two_new _ _ _ _) (by intro u hu; simp at hu; rcases hu with hu | hu <;> subst hu <;> rfl) (by omega) (by unfold maxLen; omega) (by omega) (by simp; omega) _ rfl ?_; intro g cap w3 g2 g3 g4 g5))
        go_round
        case rel =>
          refine ⟨j + 1, n + 1, by omega, by omega, by go_num, by rw [HC.out]; exact g2, ?_⟩
          exact (hB2.alloc hB2.size _).grown g3 (by simp; omega) (fun k e => (h2.lt k e).1)
        case measure => simp [intOf]; omega
    · have e : j = 280 := by omega
      subst e
      go_wp2
      go_ret
      exact ⟨_, n, rfl, hown, hB⟩

theorem rflist_row (h : Int) (ab : Bool) (xs : List (Int × Int)) (w : World) (hy : Yr h) (hx : feasts (ylen h) (ny h) ab = xs) :
    Calls Try.prog 54 #[.int .i64 h, .bool ab] w fun e w' => ∃ out, e = .returned out ∧ RowF w' out xs ∧ Below w.heap.size w w' :=
  (rflist_own h _ _ ab w hy rfl rfl).mono fun e w' ⟨out, n, h1, h2, h3⟩ => ⟨out, h1, rowF_of h2 (by rw [rcells_list hy, hx]), h3⟩
theorem flist_row (h : Int) (ab : Bool) (xs : List (Int × Int)) (w : World) (hy : Yr h) (hx : feasts (ylen h) (ny h) ab = xs) :
    Calls Try.prog 52 #[.int .i64 h, .bool ab] w fun e w' => ∃ out, e = .returned (.tuple #[out, .int .i64 0]) ∧ RowF w' out xs ∧ Below w.heap.size w w' :=
  (flist_ok h ab w hy).mono fun e w' ⟨out, n, h1, h2, h3⟩ => ⟨out, h1, rowF_of h2 (by rw [fcells_list hy, hx]), h3⟩

/-- Thirteen feasts, or eight. -/
theorem feasts_len (L y : Int) (ab : Bool) : (feasts L y ab).length = if ab then 13 else 8 := by cases ab <;> rfl
theorem rowF_some {w : World} {v : Value} {xs : List (Int × Int)} (h : RowF w v xs) (n : Nat) (hn : xs.length = n) (h0 : 0 < n) : ∃ g cap, v = .slice (some ⟨g, 0, none⟩) n cap ∧ ∀ i x, xs[i]? = some x → w.cell? ⟨g, i * 2, none⟩ = some (.int .i64 x.1) ∧ w.cell? ⟨g, i * 2 + 1, none⟩ = some (.int .i64 x.2) := by
  subst hn
  rcases h with ⟨e, _⟩ | ⟨g, cap, e, h⟩
  · rw [e] at h0; simp at h0
  · exact ⟨g, cap, e, h⟩

set_option maxHeartbeats 2000000 in
theorem awake5 (w : World) : Calls Try.prog 47 #[] w fun e w' => e = .returned (.bool true) ∧ Below w.heap.size w w' := by
  have m1 : HMay 5784 1 1 := by decide +kernel
  have m2 : HMay 5784 1 2 := by decide +kernel
  have m3 : HMay 5784 1 3 := by decide +kernel
  have m0 : HMay 5783 13 29 := by decide +kernel
  have e1 : hnum 5784 1 1 = 738779 := by decide +kernel
  have e2 : hnum 5784 1 2 = 738780 := by decide +kernel
  have e3 : hnum 5784 1 3 = 738781 := by decide +kernel
  have e0 : hnum 5783 13 29 = 738778 := by decide +kernel
  have r1 : ∀ ab, RestP 738779 ab := fun ab => (restP_of m1 e1 ab).2 (.inl (by decide))
  have r2 : RestP 738780 false := (restP_of m2 e2 false).2 (.inr (by decide))
  have r3 : ¬ RestP (738780 + 1) false := fun c => absurd ((restP_of m3 e3 false).1 c) (by decide)
  have r0 : ¬ RestP (738779 - 1) false := fun c => absurd ((restP_of m0 e0 false).1 c) (by decide)
  have k1 : KindN 738779 false 1 := .inr ⟨5784, 1, 1, m1, e1, by decide⟩
  have y1 : Yr 5784 := by unfold Yr; omega
  have R1 := Lib.hid r1
  clear m1 m2 m3 m0 e1 e2 e3 e0 r1
  go_enter Try.func47, Try.ntmps47
  go_wp2_with fail
  refine (fRun_ok 738779 738779 738780 false _ (by omega) (by omega) (by omega) (fun x x1 x2 => by
    by_cases c : x = 738779
    · rw [c]; exact R1.out false
    · rw [show x = 738780 by omega]; exact r2) r0 r3).mono ?_; rintro e w1 ⟨rfl, hb⟩
  go_wp2_with fail
  refine (flist_row 5784 true _ _ y1 rfl).mono ?_; rintro e w2 ⟨out, rfl, ro, hb2⟩
  have hB2 := hb.trans (hb2.mono hb.size)
  obtain ⟨g, cap, rfl, _⟩ := rowF_some ro 13 (by rw [feasts_len]; rfl) (by omega)
  clear hb hb2 ro
  go_wp2_with fail
  refine (fKind_any _ 1 _ _ k1).mono ?_; rintro e w3 ⟨rfl, hb⟩
  have hB3 := hB2.trans (hb.mono hB2.size)
  clear hb hB2
  go_wp2_with fail
  refine (fRest_yes _ _ _ (by unfold I64; omega) (R1.out true)).mono ?_; rintro e w4 ⟨rfl, hb⟩
  have HB := Lib.hid (hB3.trans (hb.mono hB3.size))
  clear hb hB3
  go_wp2
  go_ret
  exact ⟨rfl, HB.out⟩

end Go.Proofs.Ytdjfmcomeaijgaa
