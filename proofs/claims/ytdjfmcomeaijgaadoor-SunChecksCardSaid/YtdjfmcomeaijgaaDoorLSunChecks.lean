/- SunChecks: whether any table may be is the document's: the walk. -/
import Derived.Test.YtdjfmcomeaijgaaDoorS8
import Derived.Deep.RegionWith
namespace Go.Proofs.YtdjfmcomeaijgaaDoor
open Go Go.RowKit
set_option linter.unusedVariables false
set_option linter.unusedSimpArgs false

set_option maxHeartbeats 1000000 in
theorem sunchecks_any (f : Nat → Int) (w : World) (ht : Tab w) (hf : ∀ i, i < 12 → I64 (f i)) : Calls Tryd.prog 10 #[.agg (sunArr f)] w fun e w' => e = .returned (.bool true) ∧ Below w.heap.size w w' := by
  have hA := (Below.refl w.heap.size w).alloc (Nat.le_refl _) (.cells (sunArr f) 40)
  have ht1 := (ht.below hA).drew
  have bS := (BlockIs.new w (sunArr f) 40).drew
  have hA := hA.drew
  unfold sunArr at hA ht1 bS ⊢
  go_enter Tryd.func10, Tryd.ntmps10
  go_wp2_with fail
  generalize (w.alloc (.cells #[.int .i64 (f 0), .int .i64 (f 1), .int .i64 (f 2), .int .i64 (f 3), .int .i64 (f 4), .int .i64 (f 5), .int .i64 (f 6), .int .i64 (f 7), .int .i64 (f 8), .int .i64 (f 9), .int .i64 (f 10), .int .i64 (f 11)] 40)) = W0 at *
  have HS := Lib.hid (show BlockIs W0.drew w.heap.size (sunArr f) 40 from bS)
  have HB := Lib.hid hA
  clear hA bS
  go_region_with (first
      | (go_at_call 35; refine (awake7 _ ht1).mono ?_; rintro e w2 ⟨rfl, hb2⟩; have HS2 := Lib.hid (HS.out.kept hb2); have HB2 := Lib.hid (HB.out.trans (hb2.mono HB.out.size)); clear hb2; obtain ⟨z0, z1, z2, z3, z4, z5, z6, z7, z8, z9, z10, z11⟩ := sun_cells HS2.out)
      | (go_at_call 36; refine (scheck_any f (sunErr f) _ rfl hf).mono ?_; rintro e w3 ⟨rfl, hb3⟩; have HS3 := Lib.hid (HS2.out.kept hb3); have HB3 := Lib.hid (HB2.out.trans (hb3.mono HB2.out.size)); clear hb3; obtain ⟨z0', z1', z2', z3', z4', z5', z6', z7', z8', z9', z10', z11'⟩ := sun_cells HS3.out)
      | (go_at_call 37; refine (rscheck_any f (sunErr f) _ rfl hf).mono ?_; rintro e w4 ⟨rfl, hb4⟩; have HB4 := Lib.hid (HB3.out.trans (hb4.mono HB3.out.size)); clear hb4))
  all_goals
    go_wp2
    go_ret
    exact ⟨rfl, HB4.out⟩

theorem walk_SunChecks (a0 a1 a2 a3 a4 a5 a6 a7 a8 a9 a10 a11 : Int) (w0 : (Lit.int .i64 a0).wf = true) (w1 : (Lit.int .i64 a1).wf = true) (w2 : (Lit.int .i64 a2).wf = true) (w3 : (Lit.int .i64 a3).wf = true) (w4 : (Lit.int .i64 a4).wf = true) (w5 : (Lit.int .i64 a5).wf = true) (w6 : (Lit.int .i64 a6).wf = true) (w7 : (Lit.int .i64 a7).wf = true) (w8 : (Lit.int .i64 a8).wf = true) (w9 : (Lit.int .i64 a9).wf = true) (w10 : (Lit.int .i64 a10).wf = true) (w11 : (Lit.int .i64 a11).wf = true) (w : World) (ht : Tab w) : Calls Tryd.prog 10 #[.agg #[.int .i64 a0, .int .i64 a1, .int .i64 a2, .int .i64 a3, .int .i64 a4, .int .i64 a5, .int .i64 a6, .int .i64 a7, .int .i64 a8, .int .i64 a9, .int .i64 a10, .int .i64 a11]] w fun e w' => e = .returned (.bool true) ∧ Below w.heap.size w w' :=
  sunchecks_any (sun12 a0 a1 a2 a3 a4 a5 a6 a7 a8 a9 a10 a11) w ht (sun12_i64 w0 w1 w2 w3 w4 w5 w6 w7 w8 w9 w10 w11)

end Go.Proofs.YtdjfmcomeaijgaaDoor
