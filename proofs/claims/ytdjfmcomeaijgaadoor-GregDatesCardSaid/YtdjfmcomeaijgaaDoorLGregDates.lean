/- GregDates: any number's date is the document's: the walk. -/
import Derived.Test.YtdjfmcomeaijgaaDoorG4
import Derived.Test.YtdjfmcomeaijgaaDoorGR
namespace Go.Proofs.YtdjfmcomeaijgaaDoor
open Go.RowKit
set_option linter.unusedVariables false
set_option linter.unusedSimpArgs false

set_option maxHeartbeats 2000000 in
theorem walk_GregDates (n : Int) (wn : (Lit.int .i64 n).wf = true) (w : World) (ht : Tab w) : Calls Tryd.prog 4 #[.int .i64 n] w fun e w' => e = .returned (.bool true) ∧ Below w.heap.size w w' := by
  clear wn
  by_cases hn : 1 ≤ n ∧ n ≤ 3652059
  · obtain ⟨h1, h2⟩ := hn
    go_enter Tryd.func4, Tryd.ntmps4
    go_wp2_with fail
    refine (gof_ok _ _ ht h1 h2).mono ?_; rintro e w1 ⟨rfl, hb1⟩
    have ht1 := (ht.below hb1).alloc (.cells #[.int .i64 (yOf n), .int .i64 (mOf n), .int .i64 (dOf n)] 23)
    have hB1 := hb1.alloc hb1.size (.cells #[.int .i64 (yOf n), .int .i64 (mOf n), .int .i64 (dOf n)] 23)
    have b1 := BlockIs.new w1 #[.int .i64 (yOf n), .int .i64 (mOf n), .int .i64 (dOf n)] 23
    clear hb1
    have c0 := b1.cell (i := 0) (v := .int .i64 (yOf n)) rfl
    have c1 := b1.cell (i := 1) (v := .int .i64 (mOf n)) rfl
    have c2 := b1.cell (i := 2) (v := .int .i64 (dOf n)) rfl
    have hlt := b1.lt
    have HT := Lib.hid (show ∀ W', Below (w1.alloc (.cells #[.int .i64 (yOf n), .int .i64 (mOf n), .int .i64 (dOf n)] 23)).heap.size (w1.alloc (.cells #[.int .i64 (yOf n), .int .i64 (mOf n), .int .i64 (dOf n)] 23)) W' → Tab W' from fun W' h => ht1.below h)
    have HB := Lib.hid hB1
    clear b1 hB1 ht1
    go_wp2_with fail
    generalize w1.alloc (.cells #[.int .i64 (yOf n), .int .i64 (mOf n), .int .i64 (dOf n)] 23) = W0 at *
    go_region_held3 (fun w' => w'.cell? ⟨w1.heap.size, 0, none⟩ = some (.int .i64 (yOf n)) ∧ w'.cell? ⟨w1.heap.size, 1, none⟩ = some (.int .i64 (mOf n)) ∧ w'.cell? ⟨w1.heap.size, 2, none⟩ = some (.int .i64 (dOf n)) ∧ Below W0.heap.size W0 w')
      (first
        | (exact ⟨c0, c1, c2, (Below.refl _ _).drew⟩)
        | assumption
        | (refine keep3 (by assumption) hb2 hlt (Nat.le_refl _))
        | (refine keep3 (by assumption) hb3 hlt (Nat.le_refl _))
        | go_keep)
      (first
        | (go_at_call 29; refine (awake2 _ (by exact HT.out _ (And.right (And.right (And.right (by assumption)))))).mono ?_; rintro e w2 ⟨rfl, hb2⟩)
        | (go_at_call 32; refine (rgof_any _ _ h1 h2).mono ?_; rintro e w3 ⟨rfl, hb3⟩))
    go_wp2
    go_ret
    have hh := (‹_ ∧ _ ∧ _ ∧ Below _ _ w3›).2.2.2
    exact ⟨rfl, HB.out.trans (hh.mono HB.out.size)⟩
  · have hn' : n < 1 ∨ 3652059 < n := by omega
    have h0 : n < 1 ∨ (1 ≤ n ∧ 3652059 < n) := by omega
    clear hn
    rcases h0 with h0 | ⟨h0, h1⟩
    all_goals
      go_enter Tryd.func4, Tryd.ntmps4
      go_wp2_with fail
      refine (gof_no _ _ (by omega)).mono ?_; rintro e w1 ⟨rfl, hb1⟩
      have ht1 := (ht.below hb1).alloc (.cells #[.int .i64 0, .int .i64 0, .int .i64 0] 23)
      have hB1 := hb1.alloc hb1.size (.cells #[.int .i64 0, .int .i64 0, .int .i64 0] 23)
      have b1 := BlockIs.new w1 #[.int .i64 0, .int .i64 0, .int .i64 0] 23
      clear hb1
      go_wp2_with fail
      refine (awake2 _ ht1).mono ?_; rintro e w2 ⟨rfl, hb2⟩
      have b2 := b1.kept hb2
      have hB2 := Lib.hid (hB1.trans (hb2.mono hB1.size))
      have c0 : w2.cell? ⟨w1.heap.size, 0, none⟩ = some (.int .i64 0) := b2.cell rfl
      have c1 : w2.cell? ⟨w1.heap.size, 1, none⟩ = some (.int .i64 0) := b2.cell rfl
      have c2 : w2.cell? ⟨w1.heap.size, 2, none⟩ = some (.int .i64 0) := b2.cell rfl
      clear b1 hB1 hb2 ht1 b2
      go_wp2
      go_ret
      exact ⟨rfl, hB2.out⟩

end Go.Proofs.YtdjfmcomeaijgaaDoor
