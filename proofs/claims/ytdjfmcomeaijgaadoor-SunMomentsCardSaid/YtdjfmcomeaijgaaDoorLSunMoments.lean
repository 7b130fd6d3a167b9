/- SunMoments: the instant at which the sun sets is the document's: the walk. -/
import Derived.Test.YtdjfmcomeaijgaaDoorS8
namespace Go.Proofs.YtdjfmcomeaijgaaDoor
open Go Go.RowKit
set_option linter.unusedVariables false
set_option linter.unusedSimpArgs false

set_option maxHeartbeats 1000000 in
theorem sunmoments_any (b s m k d t m' k' d' t' : Int) (f : Nat → Int) (n : Int) (w : World) (ht : Tab w) (hf : ∀ i, i < 12 → I64 (f i)) (hm : I64 m) (hm' : I64 m') (hn : I64 n) :
    Calls Tryd.prog 12 #[.agg #[.int .i64 b, .int .i64 s, .int .i64 m, .int .i64 k, .int .i64 d, .int .i64 t, .int .i64 m', .int .i64 k', .int .i64 d', .int .i64 t'], .agg (sunArr f), .int .i64 n] w fun e w' => e = .returned (.bool true) ∧ Below w.heap.size w w' := by
  have kz := (BlockIs.new w #[.int .i64 b, .int .i64 s, .int .i64 m, .int .i64 k, .int .i64 d, .int .i64 t, .int .i64 m', .int .i64 k', .int .i64 d', .int .i64 t'] 49).alloc (.cells (sunArr f) 40)
  have ks := BlockIs.new (w.alloc (.cells #[.int .i64 b, .int .i64 s, .int .i64 m, .int .i64 k, .int .i64 d, .int .i64 t, .int .i64 m', .int .i64 k', .int .i64 d', .int .i64 t'] 49)) (sunArr f) 40
  rw [World.size_alloc] at ks
  have hA := ((Below.refl w.heap.size w).alloc (Nat.le_refl _) (.cells #[.int .i64 b, .int .i64 s, .int .i64 m, .int .i64 k, .int .i64 d, .int .i64 t, .int .i64 m', .int .i64 k', .int .i64 d', .int .i64 t'] 49)).alloc (by simp) (.cells (sunArr f) 40)
  have ht1 := ht.below hA
  obtain ⟨r1, r2, hr⟩ : ∃ r1 r2, momV ⟨b, s, m, k, d, t, m', k', d', t'⟩ f n = (r1, r2) := ⟨_, _, rfl⟩
  have HR := Lib.hid hr
  clear hr
  unfold sunArr at kz ks hA ht1 ⊢
  go_enter Tryd.func12, Tryd.ntmps12
  go_wp2_with fail
  rw [sunArr_out]
  refine (smoment_any _ _ _ _ _ _ _ _ _ _ f n r1 r2 _ ht1 hf hn HR.out).mono ?_; rintro e w1 ⟨rfl, hb1⟩
  have ht2 := ht1.below hb1
  have hB1 := hA.trans (hb1.mono hA.size)
  have kz1 := kz.kept hb1
  obtain ⟨z0, z1, z2, z3, z4, z5, z6, z7, z8, z9, z10, z11⟩ := sun_cells (f := f) (ks.kept hb1)
  have y0 : w1.cell? ⟨w.heap.size, 0, none⟩ = some (.int .i64 b) := kz1.cell rfl
  have y1 : w1.cell? ⟨w.heap.size, 1, none⟩ = some (.int .i64 s) := kz1.cell rfl
  have y2 : w1.cell? ⟨w.heap.size, 2, none⟩ = some (.int .i64 m) := kz1.cell rfl
  have y3 : w1.cell? ⟨w.heap.size, 3, none⟩ = some (.int .i64 k) := kz1.cell rfl
  have y4 : w1.cell? ⟨w.heap.size, 4, none⟩ = some (.int .i64 d) := kz1.cell rfl
  have y5 : w1.cell? ⟨w.heap.size, 5, none⟩ = some (.int .i64 t) := kz1.cell rfl
  have y6 : w1.cell? ⟨w.heap.size, 6, none⟩ = some (.int .i64 m') := kz1.cell rfl
  have y7 : w1.cell? ⟨w.heap.size, 7, none⟩ = some (.int .i64 k') := kz1.cell rfl
  have y8 : w1.cell? ⟨w.heap.size, 8, none⟩ = some (.int .i64 d') := kz1.cell rfl
  have y9 : w1.cell? ⟨w.heap.size, 9, none⟩ = some (.int .i64 t') := kz1.cell rfl
  clear hb1 kz kz1 ks
  go_wp2_with fail
  rw [sunArr_out]
  refine (rsmoment_any _ _ _ _ _ _ _ _ _ _ f n r1 r2 _ hf hm hm' hn HR.out).mono ?_; rintro e w2 ⟨rfl, hb2⟩
  have ht3 := ht2.below hb2
  have hB2 := hB1.trans (hb2.mono hB1.size)
  clear hb2 hB1 z0 z1 z2 z3 z4 z5 z6 z7 z8 z9 z10 z11 y0 y1 y2 y3 y4 y5 y6 y7 y8 y9
  go_wp2_with fail
  refine (awake7 _ ht3).mono ?_; rintro e w3 ⟨rfl, hb3⟩
  have HB := Lib.hid (hB2.trans (hb3.mono hB2.size))
  clear hb3 hB2
  go_wp2
  go_ret
  exact ⟨rfl, HB.out⟩

theorem walk_SunMoments (b s m k d t m' k' d' t' : Int) (a0 a1 a2 a3 a4 a5 a6 a7 a8 a9 a10 a11 : Int) (n : Int) (v0 : (Lit.int .i64 b).wf = true) (v1 : (Lit.int .i64 s).wf = true) (v2 : (Lit.int .i64 m).wf = true) (v3 : (Lit.int .i64 k).wf = true) (v4 : (Lit.int .i64 d).wf = true) (v5 : (Lit.int .i64 t).wf = true) (v6 : (Lit.int .i64 m').wf = true) (v7 : (Lit.int .i64 k').wf = true) (v8 : (Lit.int .i64 d').wf = true) (v9 : (Lit.int .i64 t').wf = true) (w0 : (Lit.int .i64 a0).wf = true) (w1 : (Lit.int .i64 a1).wf = true) (w2 : (Lit.int .i64 a2).wf = true) (w3 : (Lit.int .i64 a3).wf = true) (w4 : (Lit.int .i64 a4).wf = true) (w5 : (Lit.int .i64 a5).wf = true) (w6 : (Lit.int .i64 a6).wf = true) (w7 : (Lit.int .i64 a7).wf = true) (w8 : (Lit.int .i64 a8).wf = true) (w9 : (Lit.int .i64 a9).wf = true) (w10 : (Lit.int .i64 a10).wf = true) (w11 : (Lit.int .i64 a11).wf = true) (wn : (Lit.int .i64 n).wf = true) (w : World) (ht : Tab w) : Calls Tryd.prog 12 #[.agg #[.int .i64 b, .int .i64 s, .int .i64 m, .int .i64 k, .int .i64 d, .int .i64 t, .int .i64 m', .int .i64 k', .int .i64 d', .int .i64 t'], .agg #[.int .i64 a0, .int .i64 a1, .int .i64 a2, .int .i64 a3, .int .i64 a4, .int .i64 a5, .int .i64 a6, .int .i64 a7, .int .i64 a8, .int .i64 a9, .int .i64 a10, .int .i64 a11], .int .i64 n] w fun e w' => e = .returned (.bool true) ∧ Below w.heap.size w w' :=
  sunmoments_any b s m k d t m' k' d' t' (sun12 a0 a1 a2 a3 a4 a5 a6 a7 a8 a9 a10 a11) n w ht (sun12_i64 w0 w1 w2 w3 w4 w5 w6 w7 w8 w9 w10 w11) (i64_of v2) (i64_of v6) (i64_of wn)

end Go.Proofs.YtdjfmcomeaijgaaDoor
