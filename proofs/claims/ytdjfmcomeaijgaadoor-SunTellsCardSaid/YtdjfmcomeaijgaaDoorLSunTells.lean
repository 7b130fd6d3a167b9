/- SunTells: when the sun sets on any day is the document's: the walk. -/
import Derived.Test.YtdjfmcomeaijgaaDoorS8
namespace Go.Proofs.YtdjfmcomeaijgaaDoor
open Go Go.RowKit
set_option linter.unusedVariables false
set_option linter.unusedSimpArgs false

set_option maxHeartbeats 1000000 in
theorem suntells_any (f : Nat → Int) (n : Int) (w : World) (ht : Tab w) (hf : ∀ i, i < 12 → I64 (f i)) (hn : I64 n) : Calls Tryd.prog 11 #[.agg (sunArr f), .int .i64 n] w fun e w' => e = .returned (.bool true) ∧ Below w.heap.size w w' := by
  have hA := (Below.refl w.heap.size w).alloc (Nat.le_refl _) (.cells (sunArr f) 40)
  have ht1 := ht.below hA
  have bS := BlockIs.new w (sunArr f) 40
  rcases sunErr_cases f with ⟨cs, hi, hy⟩ | cs | cs
  · unfold sunArr at hA ht1 bS ⊢
    have hn3 : (n < 1 ∨ (1 ≤ n ∧ 3652059 < n)) ∨ (1 ≤ n ∧ n ≤ 3652059) := by omega
    rcases hn3 with hn3 | ⟨h1, h2⟩
    · have hno : n < 1 ∨ 3652059 < n := by omega
      rcases hn3 with h1 | ⟨h1, h2⟩
      all_goals
        go_enter Tryd.func11, Tryd.ntmps11
        go_wp2_with fail
        rw [sunArr_out]
        refine (sat_day f n _ cs hno hf).mono ?_; rintro e w1 ⟨rfl, hb1⟩
        have ht2 := ht1.below hb1
        have hB1 := hA.trans (hb1.mono hA.size)
        have bS1 := BlockIs.kept (cs := sunArr f) bS hb1
        obtain ⟨z0, z1, z2, z3, z4, z5, z6, z7, z8, z9, z10, z11⟩ := sun_cells bS1
        clear hb1
        go_wp2_with fail
        rw [sunArr_out]
        refine (rscheck_any f _ _ cs hf).mono ?_; rintro e w2 ⟨rfl, hb2⟩
        have ht3 := ht2.below hb2
        have bS2 := bS1.kept hb2
        have hB2 := hB1.trans (hb2.mono hB1.size)
        clear hb2 z0 z1 z2 z3 z4 z5 z6 z7 z8 z9 z10 z11
        go_wp2_with fail
        refine (awake7 _ ht3).mono ?_; rintro e w3 ⟨rfl, hb3⟩
        have bS3 := bS2.kept hb3
        have hB3 := hB2.trans (hb3.mono hB2.size)
        clear hb3 hB2 hB1
        have HB := Lib.hid hB3
        clear hB3
        go_wp2
        go_ret
        exact ⟨rfl, HB.out⟩
    · go_enter Tryd.func11, Tryd.ntmps11
      go_wp2_with fail
      rw [sunArr_out]
      refine (sat_ok f n _ ht1 cs hi hy h1 h2 hf).mono ?_; rintro e w1 ⟨rfl, hb1⟩
      have ht2 := ht1.below hb1
      have hB1 := hA.trans (hb1.mono hA.size)
      have bS1 := BlockIs.kept (cs := sunArr f) bS hb1
      obtain ⟨z0, z1, z2, z3, z4, z5, z6, z7, z8, z9, z10, z11⟩ := sun_cells bS1
      clear hb1
      go_wp2_with fail
      rw [sunArr_out]
      refine (rscheck_any f _ _ cs hf).mono ?_; rintro e w2 ⟨rfl, hb2⟩
      have ht3 := ht2.below hb2
      have bS2 := bS1.kept hb2
      have hB2 := hB1.trans (hb2.mono hB1.size)
      clear hb2 z0 z1 z2 z3 z4 z5 z6 z7 z8 z9 z10 z11
      go_wp2_with fail
      refine (awake7 _ ht3).mono ?_; rintro e w3 ⟨rfl, hb3⟩
      have bS3 := bS2.kept hb3
      have hB3 := hB2.trans (hb3.mono hB2.size)
      clear hb3 hB2 hB1
      obtain ⟨z0, z1, z2, z3, z4, z5, z6, z7, z8, z9, z10, z11⟩ := sun_cells bS3
      go_wp2_with fail
      rw [sunArr_out]
      refine (rsat_ok f n _ hi hy h1 h2).mono ?_; rintro e w4 ⟨rfl, hb4⟩
      have HB := Lib.hid (hB3.trans (hb4.mono hB3.size))
      clear hb4 hB3
      go_wp2
      go_ret
      exact ⟨rfl, HB.out⟩
  all_goals
    unfold sunArr at hA ht1 bS ⊢
    go_enter Tryd.func11, Tryd.ntmps11
    go_wp2_with fail
    rw [sunArr_out]
    refine (sat_err f n _ _ cs (by omega) hf).mono ?_; rintro e w1 ⟨rfl, hb1⟩
    have ht2 := ht1.below hb1
    have hB1 := hA.trans (hb1.mono hA.size)
    obtain ⟨z0, z1, z2, z3, z4, z5, z6, z7, z8, z9, z10, z11⟩ := sun_cells (f := f) (bS.kept hb1)
    clear hb1
    go_wp2_with fail
    rw [sunArr_out]
    refine (rscheck_any f _ _ cs hf).mono ?_; rintro e w2 ⟨rfl, hb2⟩
    have ht3 := ht2.below hb2
    have hB2 := hB1.trans (hb2.mono hB1.size)
    clear hb2 z0 z1 z2 z3 z4 z5 z6 z7 z8 z9 z10 z11
    go_wp2_with fail
    refine (awake7 _ ht3).mono ?_; rintro e w3 ⟨rfl, hb3⟩
    have hB3 := Lib.hid (hB2.trans (hb3.mono hB2.size))
    clear hb3 hB2 hB1
    go_wp2
    go_ret
    exact ⟨rfl, hB3.out⟩

theorem walk_SunTells (a0 a1 a2 a3 a4 a5 a6 a7 a8 a9 a10 a11 : Int) (n : Int) (w0 : (Lit.int .i64 a0).wf = true) (w1 : (Lit.int .i64 a1).wf = true) (w2 : (Lit.int .i64 a2).wf = true) (w3 : (Lit.int .i64 a3).wf = true) (w4 : (Lit.int .i64 a4).wf = true) (w5 : (Lit.int .i64 a5).wf = true) (w6 : (Lit.int .i64 a6).wf = true) (w7 : (Lit.int .i64 a7).wf = true) (w8 : (Lit.int .i64 a8).wf = true) (w9 : (Lit.int .i64 a9).wf = true) (w10 : (Lit.int .i64 a10).wf = true) (w11 : (Lit.int .i64 a11).wf = true) (wn : (Lit.int .i64 n).wf = true) (w : World) (ht : Tab w) : Calls Tryd.prog 11 #[.agg #[.int .i64 a0, .int .i64 a1, .int .i64 a2, .int .i64 a3, .int .i64 a4, .int .i64 a5, .int .i64 a6, .int .i64 a7, .int .i64 a8, .int .i64 a9, .int .i64 a10, .int .i64 a11], .int .i64 n] w fun e w' => e = .returned (.bool true) ∧ Below w.heap.size w w' :=
  suntells_any (sun12 a0 a1 a2 a3 a4 a5 a6 a7 a8 a9 a10 a11) n w ht (sun12_i64 w0 w1 w2 w3 w4 w5 w6 w7 w8 w9 w10 w11) (i64_of wn)

end Go.Proofs.YtdjfmcomeaijgaaDoor
