/-
  SunLocal: for every input the law returns true, and each argument reads as it read before. The package-level table of the months' lengths starts as the program's text lays it (the card ties it). No other condition.
-/
import Derived.Test.YtdjfmcomeaijgaaDoorRows
import Derived.Test.YtdjfmcomeaijgaaDoorLSunLocal
import Derived.Test.YtdjfmcomeaijgaaDoorF0
import Derived.Test.YtdjfmcomeaijgaaDoorTie
import Derived.Test.YtdjfmcomeaijgaaDoorCards
import Derived.Test.YtdjfmcomeaijgaaDoorTab
import Derived.SevenTiedAt
import Derived.WalkKit
import Derived.ProofKit
import Derived.OpenShut
namespace Go.Proofs.YtdjfmcomeaijgaaDoor.sunLocal
open Go.ChangeShapes Go.WideShapes Go.ChangeAt Go.RowKit
set_option linter.unusedVariables false

theorem own : ownKnob Tryd.prog.godebug = none := by kernel_rfl
theorem laidOut : laidOutB Tryd.prog = true := by kernel_rfl
theorem cells40 : Tryd.prog.cellsOf 40 = 12 := by kernel_rfl
theorem cells49 : Tryd.prog.cellsOf 49 = 10 := by kernel_rfl

set_option maxRecDepth 100000 in
theorem lifted (os : Os) (started : os.Started) (H : Type) (enc : TypeId × Value → H) :
    ReturnsInHanded {} Tryd.checked os 20 .any (fun w args => (Rows.sunLocalSpec.pre enc Tryd.prog Tryd.f20 [] false w args ∧ laidMetH Tryd.prog [("newel/greg.lengths", Rows.laid_newel_greg_lengths)] w) ∧ sizedMet enc Tryd.prog Tryd.f20 (OpenSpec.ofChange Rows.sunLocalSpec) false w args) (Rows.sunLocalSpec.post enc Tryd.prog Tryd.f20 false true false false) := by
  refine returnsInHanded_of_change_and (C := Tryd.checked) (X := fun w _ => laidMetH Tryd.prog [("newel/greg.lengths", Rows.laid_newel_greg_lengths)] w) (fun _ _ _ hh h => h.of_heap hh) own started (by kernel_rfl) Tryd.func20
    (ChangeSpec.witness_shaped (enc := enc) (C := Tryd.checked) (os := os) (X := fun w _ => laidMetH Tryd.prog [("newel/greg.lengths", Rows.laid_newel_greg_lengths)] w) false (World.doorLaid Tryd.prog 400 os) #[.agg #[.int .i64 0, .int .i64 0, .int .i64 0, .int .i64 0, .int .i64 0, .int .i64 0, .int .i64 0, .int .i64 0, .int .i64 0, .int .i64 0], .agg #[.int .i64 0, .int .i64 0, .int .i64 0, .int .i64 0, .int .i64 0, .int .i64 0, .int .i64 0, .int .i64 0, .int .i64 0, .int .i64 0, .int .i64 0, .int .i64 0], .int .i64 0] 8 rfl (World.shaped_of_RefB (by kernel_rfl) (by kernel_rfl)) (by kernel_rfl) (by kernel_rfl) (by kernel_rfl) (door_met os _)) ?_
  intro W base args ds gs before hval0 hW _ _ hL _
  have htab : Tab W := tab_of_laid hL
  have hval : ∀ (j : Nat) t v, Tryd.f20.params[j]? = some t → args[j]? = some v → Value.okWide Tryd.prog W .any base t v := hval0
  have hW' := hW
  obtain ⟨p, q, hA0, hV, rfl, hfz, hnd⟩ := hW
  have hA : DataW.TrodAll enc Tryd.prog W 0 (fun _ => true) true Tryd.f20.params.toList args.toList ds p := hA0
  rw [Tryd.params20] at hA hval
  obtain ⟨v0, vs0, d0, ds0, p0, q0, hargs, rfl, rfl, h0, r0⟩ := trodAll_cons hA
  obtain ⟨v1, vs1, d1, ds1, p1, q1, rfl, rfl, rfl, h1, r1⟩ := trodAll_cons r0
  obtain ⟨v2, vs2, d2, ds2, p2, q2, rfl, rfl, rfl, h2, r2⟩ := trodAll_cons r1
  obtain ⟨rfl, rfl, rfl⟩ := trodAll_nil r2
  obtain rfl : args = #[v0, v1, v2] := by cases args; simp_all
  obtain ⟨rfl, rfl⟩ := trodVars_none hV
  have h0k := h0
  obtain ⟨cs0, rfl, hl0, rfl, ha0⟩ := open_flat 6 (by kernel_rfl) (.inl ⟨_, Tryd.underlying49⟩) (hval 0 49 v0 rfl rfl) h0
  rw [cells49] at hl0
  obtain ⟨c0_0, c0_1, c0_2, c0_3, c0_4, c0_5, c0_6, c0_7, c0_8, c0_9, rfl⟩ := list10 hl0
  obtain ⟨x0_0, rfl, w0_0⟩ := ha0 c0_0 (by simp)
  obtain ⟨x0_1, rfl, w0_1⟩ := ha0 c0_1 (by simp)
  obtain ⟨x0_2, rfl, w0_2⟩ := ha0 c0_2 (by simp)
  obtain ⟨x0_3, rfl, w0_3⟩ := ha0 c0_3 (by simp)
  obtain ⟨x0_4, rfl, w0_4⟩ := ha0 c0_4 (by simp)
  obtain ⟨x0_5, rfl, w0_5⟩ := ha0 c0_5 (by simp)
  obtain ⟨x0_6, rfl, w0_6⟩ := ha0 c0_6 (by simp)
  obtain ⟨x0_7, rfl, w0_7⟩ := ha0 c0_7 (by simp)
  obtain ⟨x0_8, rfl, w0_8⟩ := ha0 c0_8 (by simp)
  obtain ⟨x0_9, rfl, w0_9⟩ := ha0 c0_9 (by simp)
  clear ha0 hl0
  have h1k := h1
  obtain ⟨cs1, rfl, hl1, rfl, ha1⟩ := open_flat 6 (by kernel_rfl) (.inr ⟨_, _, Tryd.underlying40⟩) (hval 1 40 v1 rfl rfl) h1
  rw [cells40] at hl1
  obtain ⟨c1_0, c1_1, c1_2, c1_3, c1_4, c1_5, c1_6, c1_7, c1_8, c1_9, c1_10, c1_11, rfl⟩ := list12 hl1
  obtain ⟨x1_0, rfl, w1_0⟩ := ha1 c1_0 (by simp)
  obtain ⟨x1_1, rfl, w1_1⟩ := ha1 c1_1 (by simp)
  obtain ⟨x1_2, rfl, w1_2⟩ := ha1 c1_2 (by simp)
  obtain ⟨x1_3, rfl, w1_3⟩ := ha1 c1_3 (by simp)
  obtain ⟨x1_4, rfl, w1_4⟩ := ha1 c1_4 (by simp)
  obtain ⟨x1_5, rfl, w1_5⟩ := ha1 c1_5 (by simp)
  obtain ⟨x1_6, rfl, w1_6⟩ := ha1 c1_6 (by simp)
  obtain ⟨x1_7, rfl, w1_7⟩ := ha1 c1_7 (by simp)
  obtain ⟨x1_8, rfl, w1_8⟩ := ha1 c1_8 (by simp)
  obtain ⟨x1_9, rfl, w1_9⟩ := ha1 c1_9 (by simp)
  obtain ⟨x1_10, rfl, w1_10⟩ := ha1 c1_10 (by simp)
  obtain ⟨x1_11, rfl, w1_11⟩ := ha1 c1_11 (by simp)
  clear ha1 hl1
  obtain ⟨a2, rfl, rfl, rfl, w2⟩ := open_int Tryd.underlying3 (hval 2 3 v2 rfl rfl) h2
  clear hA0 hval0
  simp only [List.append_nil] at hW'
  refine (Go.Proofs.YtdjfmcomeaijgaaDoor.walk_SunLocal x0_0 x0_1 x0_2 x0_3 x0_4 x0_5 x0_6 x0_7 x0_8 x0_9 x1_0 x1_1 x1_2 x1_3 x1_4 x1_5 x1_6 x1_7 x1_8 x1_9 x1_10 x1_11 a2 w0_0 w0_1 w0_2 w0_3 w0_4 w0_5 w0_6 w0_7 w0_8 w0_9 w1_0 w1_1 w1_2 w1_3 w1_4 w1_5 w1_6 w1_7 w1_8 w1_9 w1_10 w1_11 w2 W htab).mono fun e W' ⟨he, hg⟩ => ?_
  subst he
  exact ⟨_, rfl, post_below (pa := []) (pv := []) hW' (fun _ _ _ => (trodAll_cons_mk (shut_bool Tryd.underlying4 _) trodAll_mk0)) (fun sp _ => (trodAll_cons_mk (flat_stays laidOut (by kernel_rfl) (of_decide_eq_true (by kernel_rfl)) h0k) (trodAll_cons_mk (flat_stays laidOut (by kernel_rfl) (of_decide_eq_true (by kernel_rfl)) h1k) (trodAll_cons_mk (shut_int Tryd.underlying3 w2) trodAll_mk0)))) (fun _ _ => rfl) rfl
    hg (ok_one (by kernel_rfl) rfl (okWide_bool_mk Tryd.underlying4 _))⟩

theorem row_holds : Rows.SunLocalSaid :=
  OpenClaim.holds_of_wide 20 Tryd.f20 rfl rfl rfl rfl rfl rfl rfl ⟨rfl, rfl, rfl, rfl, rfl⟩ rfl rfl rfl rfl rfl (by kernel_rfl) Tryd.func20 (by kernel_rfl)
    (of_decide_eq_true (by kernel_rfl)) (by unfold Func.isWrapper; first | (rw [if_pos (by decide +kernel)]; kernel_rfl) | (rw [if_neg (by decide +kernel)]; exact ⟨rfl, rfl⟩))
    (fun os started H enc _ => lifted os started H enc)

theorem proved : Rows.SunLocalCardSaid :=
  Claim7.holds_tied_plain_at .later [] [.data] true (true, "8b6381c584169ccba40e0e506565be0d459bab5bc6271301227f3cc91a773030") false
    row_holds (fun _ h => by cases h) (by kernel_rfl) (fun _ h => by cases h) sunLocal_row_tie rfl ⟨rfl, rfl⟩ (by kernel_rfl) rfl
    (fun f fn hf hfn => by
      obtain rfl : f = 20 := Option.some.inj ((show Tryd.prog.funcNamed "newel/newellaw07.SunLocal" = some 20 by kernel_rfl).symm.trans hf) |>.symm
      obtain rfl : fn = Tryd.f20 := (Option.some.inj (Tryd.func20.symm.trans hfn)).symm
      exact ⟨by kernel_rfl, fun j t ht => by
        rw [Tryd.params20] at ht
        have hm : t ∈ [49, 40, 3] := by simpa using Array.mem_of_getElem? ht
        have hall : ([49, 40, 3].all fun u => !Tryd.prog.wantsStandIn u) = true := by kernel_rfl
        exact (show Tryd.prog.wantsStandIn t = false by simpa using List.all_eq_true.1 hall t hm)⟩)
    (by kernel_rfl)
#print axioms proved
end Go.Proofs.YtdjfmcomeaijgaaDoor.sunLocal
