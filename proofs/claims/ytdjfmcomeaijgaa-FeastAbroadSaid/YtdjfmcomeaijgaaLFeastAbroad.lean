/- FeastAbroad: what is a day of rest is one abroad, too: the walk. -/
import Derived.Test.YtdjfmcomeaijgaaFP
namespace Go.Proofs.Ytdjfmcomeaijgaa
open Go Go.RowKit
set_option linter.unusedVariables false
set_option linter.unusedSimpArgs false

/-- A day's feast here, and abroad. -/
theorem abroad_ex (n : Int) : ∃ k0 k1, KindN n false k0 ∧ KindN n true k1 ∧ 0 ≤ k1 ∧ k1 ≤ 7 ∧ (k0 ≠ 0 → k0 = k1) ∧ (k1 ≠ 0 → k0 = 0 → KindN (n - 1) false k1 ∧ k1 ≠ 1 ∧ k1 ≠ 2 ∧ -2000000 ≤ n ∧ n ≤ 4000000) := by
  by_cases c : n < ny 3762 ∨ ny 9999 + ylen 9999 ≤ n
  · exact ⟨0, 0, .inl ⟨c, rfl⟩, .inl ⟨c, rfl⟩, by omega, by omega, fun h => absurd rfl h, fun h => absurd rfl h⟩
  · obtain ⟨h, m, d, c1, c2⟩ := hdate_at n (by omega) (by have := ny_10000; omega)
    have kb := kindV_bd m d true
    have b1 := ny_bd 3762 (by omega) (by omega)
    have b2 := ny_bd 9999 (by omega) (by omega)
    have b3 := ylen_bd (h := 9999) ⟨by omega, by omega⟩
    refine ⟨_, _, .inr ⟨h, m, d, c1, c2, rfl⟩, .inr ⟨h, m, d, c1, c2, rfl⟩, kb.1, kb.2, ?_, ?_⟩
    · rw [kindV_R, kindV_R]
      unfold kindR
      simp only [Bool.false_eq_true, false_and, or_false, true_and]
      repeat' split
      all_goals first | (intro; rfl) | (intro q; exact absurd rfl q) | (exfalso; omega)
    · rw [kindV_R, kindV_R]
      intro q1 q0
      have q : (m = 1 ∧ (d = 16 ∨ d = 23)) ∨ (m = 8 ∧ (d = 16 ∨ d = 22)) ∨ (m = 10 ∧ d = 7) := by
        unfold kindR at q1 q0
        simp only [Bool.false_eq_true, false_and, or_false, true_and] at q1 q0
        repeat' split at q1
        all_goals first | omega | (repeat' split at q0 <;> omega)
      obtain ⟨_, x2⟩ := c1
      have cm : HMay h m (d - 1) := ⟨by omega, by omega⟩
      have em : hnum h m (d - 1) = n - 1 := by rw [← c2]; unfold hnum; omega
      refine ⟨?_, ?_, ?_, by omega, by omega⟩
      · have := kindN_of cm em false
        rw [kindV_R] at this
        rcases q with ⟨rfl, rfl | rfl⟩ | ⟨rfl, rfl | rfl⟩ | ⟨rfl, rfl⟩ <;> exact this
      · rcases q with ⟨rfl, rfl | rfl⟩ | ⟨rfl, rfl | rfl⟩ | ⟨rfl, rfl⟩ <;> decide
      · rcases q with ⟨rfl, rfl | rfl⟩ | ⟨rfl, rfl | rfl⟩ | ⟨rfl, rfl⟩ <;> decide

set_option maxHeartbeats 2000000 in
theorem walk_FeastAbroad (n : Int) (wn : (Lit.int .i64 n).wf = true) (w : World) : Calls Try.prog 19 #[.int .i64 n] w fun e w' => e = .returned (.bool true) ∧ Below w.heap.size w w' := by
  have hn := i64_of wn
  obtain ⟨k0, k1, hk0, hk1, kb1, kb2, hA, hC⟩ := abroad_ex n
  have r0 := rest_kind hk0
  have r1 := rest_kind hk1
  have hup : RestP n false → RestP n true := fun h => r1.2 ⟨(r0.1 h).1, by
    rcases (r0.1 h).2 with x | x
    · exact .inl x
    · exact .inr (by rw [← hA x]; exact x)⟩
  have hk0 := Lib.hid hk0
  have hk1 := Lib.hid hk1
  clear r0 r1
  by_cases ca : k0 = 0
  · subst ca
    by_cases cb : k1 = 0
    · subst cb
      clear hA hC
      by_cases hr : RestP n false
      · have HR0 := Lib.hid hr
        have HR1 := Lib.hid (hup hr)
        clear hr hup
        go_enter Try.func19, Try.ntmps19
        go_wp2_with fail
        refine (fKind_any _ 0 _ _ hk0.out).mono ?_; rintro e w1 ⟨rfl, hb⟩
        have h1 := hb
        clear hb
        go_wp2_with fail
        refine (fKind_any _ 0 _ _ hk1.out).mono ?_; rintro e w2 ⟨rfl, hb⟩
        have h2 := h1.trans (hb.mono h1.size)
        clear hb h1
        go_wp2_with fail
        refine (fRest_yes _ _ _ hn HR0.out).mono ?_; rintro e w3 ⟨rfl, hb⟩
        have h3 := h2.trans (hb.mono h2.size)
        clear hb h2
        go_wp2_with fail
        refine (fRest_yes _ _ _ hn HR1.out).mono ?_; rintro e w4 ⟨rfl, hb⟩
        have h4 := h3.trans (hb.mono h3.size)
        clear hb h3
        go_wp2_with fail
        refine (awake5 _).mono ?_; rintro e w5 ⟨rfl, hb⟩
        have h5 := h4.trans (hb.mono h4.size)
        clear hb h4
        have HB := Lib.hid h5
        clear h5
        go_wp2
        go_ret
        exact ⟨rfl, HB.out⟩
      · have HR0 := Lib.hid hr
        clear hr hup
        go_enter Try.func19, Try.ntmps19
        go_wp2_with fail
        refine (fKind_any _ 0 _ _ hk0.out).mono ?_; rintro e w1 ⟨rfl, hb⟩
        have h1 := hb
        clear hb
        go_wp2_with fail
        refine (fKind_any _ 0 _ _ hk1.out).mono ?_; rintro e w2 ⟨rfl, hb⟩
        have h2 := h1.trans (hb.mono h1.size)
        clear hb h1
        go_wp2_with fail
        refine (fRest_no _ _ _ hn HR0.out).mono ?_; rintro e w3 ⟨rfl, hb⟩
        have h3 := h2.trans (hb.mono h2.size)
        clear hb h2
        go_wp2_with fail
        refine (awake5 _).mono ?_; rintro e w4 ⟨rfl, hb⟩
        have h4 := h3.trans (hb.mono h3.size)
        clear hb h3
        have HB := Lib.hid h4
        clear h4
        go_wp2
        go_ret
        exact ⟨rfl, HB.out⟩
    · obtain ⟨hm, n1, n2, n3, n4⟩ := hC cb rfl
      have hm := Lib.hid hm
      have e0 : (k1 != 0) = true := by simpa using cb
      have e1 : (k1 != 1) = true := by simpa using n1
      have e2 : (k1 != 2) = true := by simpa using n2
      clear hA hC cb n1 n2
      by_cases hr : RestP n false
      · have HR0 := Lib.hid hr
        have HR1 := Lib.hid (hup hr)
        clear hr hup
        go_enter Try.func19, Try.ntmps19
        go_wp2_with fail
        refine (fKind_any _ 0 _ _ hk0.out).mono ?_; rintro e w1 ⟨rfl, hb⟩
        have h1 := hb
        clear hb
        go_wp2_with fail
        refine (fKind_any _ k1 _ _ hk1.out).mono ?_; rintro e w2 ⟨rfl, hb⟩
        have h2 := h1.trans (hb.mono h1.size)
        clear hb h1
        go_wp2_with fail
        refine (fRest_yes _ _ _ hn HR0.out).mono ?_; rintro e w3 ⟨rfl, hb⟩
        have h3 := h2.trans (hb.mono h2.size)
        clear hb h2
        go_wp2_with fail
        refine (fRest_yes _ _ _ hn HR1.out).mono ?_; rintro e w4 ⟨rfl, hb⟩
        have h4 := h3.trans (hb.mono h3.size)
        clear hb h3
        go_wp2_with fail
        refine (awake5 _).mono ?_; rintro e w5 ⟨rfl, hb⟩
        have h5 := h4.trans (hb.mono h4.size)
        clear hb h4
        go_wp2_with fail
        refine (fKind_any _ k1 _ _ hm.out).mono ?_; rintro e w6 ⟨rfl, hb⟩
        have h6 := h5.trans (hb.mono h5.size)
        clear hb h5
        have HB := Lib.hid h6
        clear h6
        go_wp2
        go_ret
        exact ⟨rfl, HB.out⟩
      · have HR0 := Lib.hid hr
        clear hr hup
        go_enter Try.func19, Try.ntmps19
        go_wp2_with fail
        refine (fKind_any _ 0 _ _ hk0.out).mono ?_; rintro e w1 ⟨rfl, hb⟩
        have h1 := hb
        clear hb
        go_wp2_with fail
        refine (fKind_any _ k1 _ _ hk1.out).mono ?_; rintro e w2 ⟨rfl, hb⟩
        have h2 := h1.trans (hb.mono h1.size)
        clear hb h1
        go_wp2_with fail
        refine (fRest_no _ _ _ hn HR0.out).mono ?_; rintro e w3 ⟨rfl, hb⟩
        have h3 := h2.trans (hb.mono h2.size)
        clear hb h2
        go_wp2_with fail
        refine (awake5 _).mono ?_; rintro e w4 ⟨rfl, hb⟩
        have h4 := h3.trans (hb.mono h3.size)
        clear hb h3
        go_wp2_with fail
        refine (fKind_any _ k1 _ _ hm.out).mono ?_; rintro e w5 ⟨rfl, hb⟩
        have h5 := h4.trans (hb.mono h4.size)
        clear hb h4
        have HB := Lib.hid h5
        clear h5
        go_wp2
        go_ret
        exact ⟨rfl, HB.out⟩
  · have e := hA ca
    subst e
    have e0 : (k0 != 0) = true := by simpa using ca
    have e1 : (k0 == 0) = false := beq_eq_false_iff_ne.2 ca
    clear hA hC ca
    by_cases hr : RestP n false
    · have HR0 := Lib.hid hr
      have HR1 := Lib.hid (hup hr)
      clear hr hup
      go_enter Try.func19, Try.ntmps19
      go_wp2_with fail
      refine (fKind_any _ k0 _ _ hk0.out).mono ?_; rintro e w1 ⟨rfl, hb⟩
      have h1 := hb
      clear hb
      go_wp2_with fail
      refine (fKind_any _ k0 _ _ hk1.out).mono ?_; rintro e w2 ⟨rfl, hb⟩
      have h2 := h1.trans (hb.mono h1.size)
      clear hb h1
      go_wp2_with fail
      refine (fRest_yes _ _ _ hn HR0.out).mono ?_; rintro e w3 ⟨rfl, hb⟩
      have h3 := h2.trans (hb.mono h2.size)
      clear hb h2
      go_wp2_with fail
      refine (fRest_yes _ _ _ hn HR1.out).mono ?_; rintro e w4 ⟨rfl, hb⟩
      have h4 := h3.trans (hb.mono h3.size)
      clear hb h3
      go_wp2_with fail
      refine (awake5 _).mono ?_; rintro e w5 ⟨rfl, hb⟩
      have h5 := h4.trans (hb.mono h4.size)
      clear hb h4
      have HB := Lib.hid h5
      clear h5
      go_wp2
      go_ret
      exact ⟨rfl, HB.out⟩
    · have HR0 := Lib.hid hr
      clear hr hup
      go_enter Try.func19, Try.ntmps19
      go_wp2_with fail
      refine (fKind_any _ k0 _ _ hk0.out).mono ?_; rintro e w1 ⟨rfl, hb⟩
      have h1 := hb
      clear hb
      go_wp2_with fail
      refine (fKind_any _ k0 _ _ hk1.out).mono ?_; rintro e w2 ⟨rfl, hb⟩
      have h2 := h1.trans (hb.mono h1.size)
      clear hb h1
      go_wp2_with fail
      refine (fRest_no _ _ _ hn HR0.out).mono ?_; rintro e w3 ⟨rfl, hb⟩
      have h3 := h2.trans (hb.mono h2.size)
      clear hb h2
      go_wp2_with fail
      refine (awake5 _).mono ?_; rintro e w4 ⟨rfl, hb⟩
      have h4 := h3.trans (hb.mono h3.size)
      clear hb h3
      have HB := Lib.hid h4
      clear h4
      go_wp2
      go_ret
      exact ⟨rfl, HB.out⟩

end Go.Proofs.Ytdjfmcomeaijgaa
