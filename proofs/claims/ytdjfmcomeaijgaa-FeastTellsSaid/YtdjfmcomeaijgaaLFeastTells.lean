/- FeastTells: any day's feast, and whether it is one of rest, is the document's: the walk. -/
import Derived.Test.YtdjfmcomeaijgaaFP
namespace Go.Proofs.Ytdjfmcomeaijgaa
open Go Go.RowKit
set_option linter.unusedVariables false
set_option linter.unusedSimpArgs false

set_option maxHeartbeats 1000000 in
theorem walk_FeastTells (n : Int) (ab : Bool) (wn : (Lit.int .i64 n).wf = true) (w : World) : Calls Try.prog 15 #[.int .i64 n, .bool ab] w fun e w' => e = .returned (.bool true) ∧ Below w.heap.size w w' := by
  obtain ⟨k, hk, _⟩ := kindN_ex n ab
  obtain ⟨r, hr⟩ : ∃ r : Bool, r = true ↔ RestP n ab := by
    by_cases c : RestP n ab
    · exact ⟨true, fun _ => c, fun _ => rfl⟩
    · exact ⟨false, fun x => (nomatch x), fun x => absurd x c⟩
  have hn := i64_of wn
  have hk := Lib.hid hk
  have hr := Lib.hid hr
  go_enter Try.func15, Try.ntmps15
  go_wp2_with fail
  refine (awake5 _).mono ?_; rintro e w1 ⟨rfl, hb⟩
  have h1 := hb
  clear hb
  go_wp2_with fail
  refine (fKind_any _ k _ _ hk.out).mono ?_; rintro e w2 ⟨rfl, hb⟩
  have h2 := h1.trans (hb.mono h1.size)
  clear hb h1
  go_wp2_with fail
  refine (rfKind_any _ k _ _ hk.out).mono ?_; rintro e w3 ⟨rfl, hb⟩
  have h3 := h2.trans (hb.mono h2.size)
  clear hb h2
  go_wp2_with fail
  refine (fRest_any _ _ r _ hn hr.out).mono ?_; rintro e w4 ⟨rfl, hb⟩
  have h4 := h3.trans (hb.mono h3.size)
  clear hb h3
  go_wp2_with fail
  refine (rfRest_any _ _ r _ hn hr.out).mono ?_; rintro e w5 ⟨rfl, hb⟩
  have h5 := h4.trans (hb.mono h4.size)
  clear hb h4
  have HB := Lib.hid h5
  clear h5
  go_wp2
  go_ret
  exact ⟨rfl, HB.out⟩

end Go.Proofs.Ytdjfmcomeaijgaa
