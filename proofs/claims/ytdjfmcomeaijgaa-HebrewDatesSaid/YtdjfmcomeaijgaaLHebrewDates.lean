/- HebrewDates: any number's date is the document's: the walk. -/
import Derived.Test.YtdjfmcomeaijgaaH7
namespace Go.Proofs.Ytdjfmcomeaijgaa
open Go.RowKit
set_option linter.unusedVariables false
set_option linter.unusedSimpArgs false

theorem rhof_at {n h m d : Int} (w : World) (c : HMay h m d) (e : hnum h m d = n) :
    Calls Try.prog 46 #[.int .i64 n] w fun e w' => e = .returned (.agg #[.int .i64 h, .int .i64 m, .int .i64 d]) ∧ Below w.heap.size w w' := by
  have := rhof_ok h m d w c
  rwa [e] at this

set_option maxHeartbeats 1000000 in
theorem walk_HebrewDates (n : Int) (wn : (Lit.int .i64 n).wf = true) (w : World) : Calls Try.prog 11 #[.int .i64 n] w fun e w' => e = .returned (.bool true) ∧ Below w.heap.size w w' := by
  clear wn
  by_cases hn : ny 3762 ≤ n ∧ n < ny 9999 + ylen 9999
  · obtain ⟨h, m, d, hd, he⟩ := hdate_at n hn.1 (by rw [ny_10000]; exact hn.2)
    have HE := Lib.hid he
    clear he
    have h1 : ny 3762 ≤ n := hn.1
    have h2 : n ≤ ny 9999 + ylen 9999 - 1 := by omega
    go_enter Try.func11, Try.ntmps11
    go_wp2_with fail
    refine (hof_at _ hd HE.out).mono ?_; rintro e w1 ⟨rfl, hb1⟩
    have hB1 := hb1.alloc hb1.size (.cells #[.int .i64 h, .int .i64 m, .int .i64 d] 36)
    have b1 := BlockIs.new w1 #[.int .i64 h, .int .i64 m, .int .i64 d] 36
    clear hb1
    go_wp2_with fail
    refine (rhfirst_any _).mono ?_; rintro e w2 ⟨rfl, hb2⟩
    have b2 := b1.kept hb2
    have hB2 := hB1.trans (hb2.mono hB1.size)
    clear hb2 hB1 b1
    go_wp2_with fail
    refine (rhlast_any _).mono ?_; rintro e w3 ⟨rfl, hb3⟩
    have b3 := b2.kept hb3
    have hB3 := hB2.trans (hb3.mono hB2.size)
    clear hb3 hB2 b2
    go_wp2_with fail
    have c0 : w3.cell? ⟨w1.heap.size, 0, none⟩ = some (.int .i64 h) := b3.cell rfl
    have c1 : w3.cell? ⟨w1.heap.size, 1, none⟩ = some (.int .i64 m) := b3.cell rfl
    have c2 : w3.cell? ⟨w1.heap.size, 2, none⟩ = some (.int .i64 d) := b3.cell rfl
    have hlt := b3.lt
    have HB := Lib.hid hB3
    clear b3 hB3
    go_region_held3 (fun w' => w'.cell? ⟨w1.heap.size, 0, none⟩ = some (.int .i64 h) ∧ w'.cell? ⟨w1.heap.size, 1, none⟩ = some (.int .i64 m) ∧ w'.cell? ⟨w1.heap.size, 2, none⟩ = some (.int .i64 d) ∧ Below w3.heap.size w3 w')
      (first
        | (exact ⟨c0, c1, c2, (Below.refl _ _).drew⟩)
        | assumption
        | (refine keep3 (by assumption) hb4 hlt (Nat.le_refl _))
        | (refine keep3 (by assumption) hb5 hlt (Nat.le_refl _))
        | go_keep)
      (first
        | (go_at_call 37; refine (awake4 _).mono ?_; rintro e w4 ⟨rfl, hb4⟩)
        | (go_at_call 46; refine (rhof_at _ hd HE.out).mono ?_; rintro e w5 ⟨rfl, hb5⟩))
    go_wp2
    go_ret
    have hh := (‹_ ∧ _ ∧ _ ∧ Below _ _ w5›).2.2.2
    exact ⟨rfl, HB.out.trans (hh.mono HB.out.size)⟩
  · have h0 : n < ny 3762 ∨ (ny 3762 ≤ n ∧ ny 9999 + ylen 9999 - 1 < n) := by omega
    have hno : n < ny 3762 ∨ ny 9999 + ylen 9999 ≤ n := by omega
    clear hn
    rcases h0 with h0 | ⟨h0, h1⟩
    · go_enter Try.func11, Try.ntmps11
      go_wp2_with fail
      refine (hof_no _ _ hno).mono ?_; rintro e w1 ⟨rfl, hb1⟩
      have hB1 := hb1.alloc hb1.size (.cells #[.int .i64 0, .int .i64 0, .int .i64 0] 36)
      have b1 := BlockIs.new w1 #[.int .i64 0, .int .i64 0, .int .i64 0] 36
      clear hb1 hno
      go_wp2_with fail
      refine (rhfirst_any _).mono ?_; rintro e w2 ⟨rfl, hb2⟩
      have b2 := b1.kept hb2
      have hB2 := hB1.trans (hb2.mono hB1.size)
      clear hb2 hB1 b1
      go_wp2_with fail
      refine (awake4 _).mono ?_; rintro e w3 ⟨rfl, hb3⟩
      have b3 := b2.kept hb3
      have hB3 := Lib.hid (hB2.trans (hb3.mono hB2.size))
      have c0 : w3.cell? ⟨w1.heap.size, 0, none⟩ = some (.int .i64 0) := b3.cell rfl
      have c1 : w3.cell? ⟨w1.heap.size, 1, none⟩ = some (.int .i64 0) := b3.cell rfl
      have c2 : w3.cell? ⟨w1.heap.size, 2, none⟩ = some (.int .i64 0) := b3.cell rfl
      clear hb3 hB2 b2 b3
      go_wp2
      go_ret
      exact ⟨rfl, hB3.out⟩
    · go_enter Try.func11, Try.ntmps11
      go_wp2_with fail
      refine (hof_no _ _ hno).mono ?_; rintro e w1 ⟨rfl, hb1⟩
      have hB1 := hb1.alloc hb1.size (.cells #[.int .i64 0, .int .i64 0, .int .i64 0] 36)
      have b1 := BlockIs.new w1 #[.int .i64 0, .int .i64 0, .int .i64 0] 36
      clear hb1 hno
      go_wp2_with fail
      refine (rhfirst_any _).mono ?_; rintro e w2 ⟨rfl, hb2⟩
      have b2 := b1.kept hb2
      have hB2 := hB1.trans (hb2.mono hB1.size)
      clear hb2 hB1 b1
      go_wp2_with fail
      refine (rhlast_any _).mono ?_; rintro e w3 ⟨rfl, hb3⟩
      have b3 := b2.kept hb3
      have hB3 := hB2.trans (hb3.mono hB2.size)
      clear hb3 hB2 b2
      go_wp2_with fail
      refine (awake4 _).mono ?_; rintro e w4 ⟨rfl, hb4⟩
      have b4 := b3.kept hb4
      have hB4 := Lib.hid (hB3.trans (hb4.mono hB3.size))
      have c0 : w4.cell? ⟨w1.heap.size, 0, none⟩ = some (.int .i64 0) := b4.cell rfl
      have c1 : w4.cell? ⟨w1.heap.size, 1, none⟩ = some (.int .i64 0) := b4.cell rfl
      have c2 : w4.cell? ⟨w1.heap.size, 2, none⟩ = some (.int .i64 0) := b4.cell rfl
      clear hb4 hB3 b4 b3
      go_wp2
      go_ret
      exact ⟨rfl, hB4.out⟩

end Go.Proofs.Ytdjfmcomeaijgaa
