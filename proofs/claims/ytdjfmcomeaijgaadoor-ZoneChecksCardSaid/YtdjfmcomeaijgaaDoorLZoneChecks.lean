/- ZoneChecks: whether any zone may be is the document's: the walk. -/
import Derived.Test.YtdjfmcomeaijgaaDoorZH
namespace Go.Proofs.YtdjfmcomeaijgaaDoor
open Go Go.RowKit
set_option linter.unusedVariables false
set_option linter.unusedSimpArgs false

set_option maxHeartbeats 1000000 in
theorem walk_ZoneChecks (b s m k d t m' k' d' t' : Int) (v0 : (Lit.int .i64 b).wf = true) (v1 : (Lit.int .i64 s).wf = true) (v2 : (Lit.int .i64 m).wf = true) (v3 : (Lit.int .i64 k).wf = true) (v4 : (Lit.int .i64 d).wf = true) (v5 : (Lit.int .i64 t).wf = true) (v6 : (Lit.int .i64 m').wf = true) (v7 : (Lit.int .i64 k').wf = true) (v8 : (Lit.int .i64 d').wf = true) (v9 : (Lit.int .i64 t').wf = true) (w : World) (ht : Tab w) : Calls Tryd.prog 13 #[.agg #[.int .i64 b, .int .i64 s, .int .i64 m, .int .i64 k, .int .i64 d, .int .i64 t, .int .i64 m', .int .i64 k', .int .i64 d', .int .i64 t']] w fun e w' => e = .returned (.bool true) ∧ Below w.heap.size w w' := by
  have hA := (Below.refl w.heap.size w).alloc (Nat.le_refl _) (.cells #[.int .i64 b, .int .i64 s, .int .i64 m, .int .i64 k, .int .i64 d, .int .i64 t, .int .i64 m', .int .i64 k', .int .i64 d', .int .i64 t'] 49)
  have ht1 := (ht.below hA).drew
  have bS := (BlockIs.new w #[.int .i64 b, .int .i64 s, .int .i64 m, .int .i64 k, .int .i64 d, .int .i64 t, .int .i64 m', .int .i64 k', .int .i64 d', .int .i64 t'] 49).drew
  have hA := hA.drew
  obtain ⟨r, hr⟩ : ∃ r, zErr ⟨b, s, m, k, d, t, m', k', d', t'⟩ = r := ⟨_, rfl⟩
  have HR := Lib.hid hr
  clear hr
  go_enter Tryd.func13, Tryd.ntmps13
  go_wp2_with fail
  generalize (w.alloc (.cells #[.int .i64 b, .int .i64 s, .int .i64 m, .int .i64 k, .int .i64 d, .int .i64 t, .int .i64 m', .int .i64 k', .int .i64 d', .int .i64 t'] 49)) = W0 at *
  have HS := Lib.hid (show BlockIs W0.drew w.heap.size #[.int .i64 b, .int .i64 s, .int .i64 m, .int .i64 k, .int .i64 d, .int .i64 t, .int .i64 m', .int .i64 k', .int .i64 d', .int .i64 t'] 49 from bS)
  have HB := Lib.hid hA
  clear hA bS
  go_region_with (first
      | (go_at_call 42; refine (awake6 _ ht1).mono ?_; rintro e w2 ⟨rfl, hb2⟩; have HS2 := Lib.hid (HS.out.kept hb2); have HB2 := Lib.hid (HB.out.trans (hb2.mono HB.out.size)); clear hb2; obtain ⟨z0, z1, z2, z3, z4, z5, z6, z7, z8, z9⟩ := zone_cells HS2.out)
      | (go_at_call 43; refine (zcheck_any _ _ _ _ _ _ _ _ _ _ r _ HR.out).mono ?_; rintro e w3 ⟨rfl, hb3⟩; have HS3 := Lib.hid (HS2.out.kept hb3); have HB3 := Lib.hid (HB2.out.trans (hb3.mono HB2.out.size)); clear hb3; obtain ⟨z0', z1', z2', z3', z4', z5', z6', z7', z8', z9'⟩ := zone_cells HS3.out)
      | (go_at_call 44; refine (rzcheck_any _ _ _ _ _ _ _ _ _ _ r _ HR.out (i64_of v2) (i64_of v6)).mono ?_; rintro e w4 ⟨rfl, hb4⟩; have HB4 := Lib.hid (HB3.out.trans (hb4.mono HB3.out.size)); clear hb4))
  all_goals
    go_wp2
    go_ret
    exact ⟨rfl, HB4.out⟩

end Go.Proofs.YtdjfmcomeaijgaaDoor
