/-
  TopHoly: for every input the law returns true, and each argument reads as it read before. The package-level tables of the program start as the program's text lays them (the card ties them). No other condition.
-/
import Derived.Test.YtfnifgppblbjhaaGreatDoorCards
import Derived.Test.YtfnifgppblbjhaaGreatDoorRows
import Derived.Test.YtfnifgppblbjhaaGreatDoorTie
import Derived.Test.YtfnifgppblbjhaaGreatDoorY41
import Derived.Test.YtfnifgppblbjhaaGreatDoorY42
import Derived.SevenTiedAt
import Derived.WideKeyArgs
import Derived.WalkKit
import Derived.ProofKit
import Derived.OpenShut
namespace Go.Proofs.YtfnifgppblbjhaaGreatDoor.topHoly
open Go.ChangeShapes Go.WideShapes Go.ChangeAt Go.RowKit
set_option linter.unusedVariables false

theorem own : ownKnob Tryz.prog.godebug = none := by kernel_rfl
theorem laidOut : laidOutB Tryz.prog = true := by kernel_rfl
theorem cellsW : Tryz.prog.cellsOf 35 = 7 := by kernel_rfl
theorem list7 {l : List Value} (h : l.length = 7) : ∃ a b c d e f g, l = [a, b, c, d, e, f, g] := by
  match l, h with
  | [a, b, c, d, e, f, g], _ => exact ⟨a, b, c, d, e, f, g, rfl⟩

def zeroA : Array Value := #[.agg #[.int .i64 0, .int .i64 0, .int .i64 0, .slice none 0 0, .int .i64 0, .int .i64 0, .int .i64 0, .int .i64 0, .int .i64 0, .int .i64 0, .int .i64 0, .int .i64 0, .int .i64 0, .int .i64 0, .int .i64 0, .int .i64 0, .int .i64 0, .int .i64 0, .int .i64 0, .int .i64 0, .int .i64 0, .int .i64 0, .int .i64 0, .int .i64 0, .int .i64 0, .int .i64 0, .int .i64 0, .int .i64 0, .int .i64 0, .int .i64 0, .int .i64 0, .int .i64 0, .int .i64 0, .int .i64 0, .int .i64 0, .bool false, .slice none 0 0],
  .agg #[.int .i64 0, .int .i64 0, .int .i64 0, .int .i64 0, .int .i64 0, .int .i64 0, .int .i64 0], .int .i64 0]

set_option maxRecDepth 100000 in
theorem lifted (os : Os) (started : os.Started) (H : Type) (enc : TypeId × Value → H) :
    ReturnsInHanded {} Tryz.checked os 3 .any (fun w args => (Rows.topHolySpec.pre enc Tryz.prog Tryz.f3 [] false w args ∧ laidMetH Tryz.prog laidL w) ∧ sizedMet enc Tryz.prog Tryz.f3 (OpenSpec.ofChange Rows.topHolySpec) false w args) (Rows.topHolySpec.post enc Tryz.prog Tryz.f3 false true false false) := by
  refine returnsInHanded_of_change_and (C := Tryz.checked) (X := fun w _ => laidMetH Tryz.prog laidL w) (fun _ _ _ hh h => h.of_heap hh) own started (by kernel_rfl) Tryz.func3
    (ChangeSpec.witness_shaped (enc := enc) (C := Tryz.checked) (os := os) (X := fun w _ => laidMetH Tryz.prog laidL w) false (World.doorLaid Tryz.prog 400 os) zeroA 8 rfl (World.shaped_of_RefB (by kernel_rfl) (by kernel_rfl)) (by kernel_rfl) (by kernel_rfl) (by kernel_rfl) (door_met os _)) ?_
  intro W base args ds gs before hval0 hW _ hsz hL _
  have htab : Tab W := tab_of_laid hL
  have hval : ∀ (j : Nat) t v, Tryz.f3.params[j]? = some t → args[j]? = some v → Value.okWide Tryz.prog W .any base t v := hval0
  have hW' := hW
  obtain ⟨p, q, hA0, hV, rfl, hfz, hnd⟩ := hW
  have hA : DataW.TrodAll enc Tryz.prog W 0 (fun _ => true) true Tryz.f3.params.toList args.toList ds p := hA0
  rw [Tryz.params3] at hA hval
  obtain ⟨v0, vs0, d0, ds0, p0, q0, hargs, rfl, rfl, h0, r0⟩ := trodAll_cons hA
  obtain ⟨v1, vs1, d1, ds1, p1, q1, rfl, rfl, rfl, h1, r1⟩ := trodAll_cons r0
  obtain ⟨v2, vs2, d2, ds2, p2, q2, rfl, rfl, rfl, h2, r2⟩ := trodAll_cons r1
  obtain ⟨rfl, rfl, rfl⟩ := trodAll_nil r2
  obtain rfl : args = #[v0, v1, v2] := by cases args; simp_all
  obtain ⟨rfl, rfl⟩ := trodVars_none hV
  have h0k := h0
  obtain ⟨fuel, hfu⟩ := h0
  obtain ⟨cs0, rfl, _⟩ : ∃ cs, v0 = .agg cs ∧ True := by
    have hv := hval 0 33 v0 rfl rfl
    unfold Value.okWide at hv
    rw [Tryz.underlying33] at hv
    exact ⟨hv.choose, hv.choose_spec.1, trivial⟩
  have h1k := h1
  obtain ⟨cs1, rfl, hl1, rfl, ha1⟩ := open_flat 6 (by kernel_rfl) (.inl ⟨_, Tryz.underlying35⟩) (hval 1 35 v1 rfl rfl) h1
  rw [cellsW] at hl1
  obtain ⟨u0, u1, u2, u3, u4, u5, u6, rfl⟩ := list7 hl1
  obtain ⟨x0, rfl, _⟩ := ha1 u0 (by simp)
  obtain ⟨x1, rfl, _⟩ := ha1 u1 (by simp)
  obtain ⟨x2, rfl, _⟩ := ha1 u2 (by simp)
  obtain ⟨x3, rfl, _⟩ := ha1 u3 (by simp)
  obtain ⟨x4, rfl, _⟩ := ha1 u4 (by simp)
  obtain ⟨x5, rfl, _⟩ := ha1 u5 (by simp)
  obtain ⟨x6, rfl, _⟩ := ha1 u6 (by simp)
  clear ha1 hl1
  obtain ⟨a2, rfl, rfl, rfl, w2⟩ := open_int Tryz.underlying3 (hval 2 3 v2 rfl rfl) h2
  obtain ⟨c, vs, vw, m, csw, parts, ecs, hcw, hrs, hrw, hlw, h1w, i1, i2, i3, hp, hs3, hs10⟩ := open_cfg ⟨4, 1, 0, 0, 0, x5, x6⟩ hfu
  obtain rfl : cs0 = cfgA c vs vw := Array.toList_inj.1 ecs
  have hz := cfg_sized (parts := parts) hsz (by rw [Tryz.params3]; rfl) (by rw [← hp]; rfl)
  have hb1 : c.st.length * 8 ≤ 140737488355328 := by
    rcases hs3 with h | ⟨el, sp, h, h2⟩
    · rw [h]; simp
    · have := hz.1 _ _ h; omega
  have hb2 : m * 56 ≤ 140737488355328 := by
    rcases hs10 with h | ⟨el, sp, h, h2⟩
    · rw [h]; simp
    · have := hz.2 _ _ h; omega
  clear hA0 hval0
  simp only [List.append_nil] at hW'
  have hlt : ∀ p ∈ p0, p.block < W.heap.size := fun p hp => hW'.lt p hp
  refine (Go.Proofs.YtfnifgppblbjhaaGreatDoor.walk_TopHoly c vs vw m csw x0 x1 x2 x3 x4 x5 x6 a2 W htab hcw hrs hrw hlw h1w hb1 hb2 i1 i2 i3).mono fun e W' ⟨he, hg⟩ => ?_
  subst he
  exact ⟨_, rfl, post_below (pa := p0) (pv := []) hW' (fun _ _ _ => (trodAll_cons_mk (shut_bool Tryz.underlying4 _) trodAll_mk0))
    (fun sp hsp => by
      have := trodAll_cons_mk (WideElems.Trod_stays laidOut (by kernel_rfl) (of_decide_eq_true (by kernel_rfl)) h0k (fun p hp => hg.same (hlt p hp)) hsp) (trodAll_cons_mk (flat_stays laidOut (by kernel_rfl) (of_decide_eq_true (by kernel_rfl)) h1k) (trodAll_cons_mk (shut_int Tryz.underlying3 w2) trodAll_mk0))
      simp only [List.append_nil] at this
      exact this) (fun _ _ => rfl) (by simp)
    hg (ok_one (by kernel_rfl) rfl (okWide_bool_mk Tryz.underlying4 _))⟩

theorem row_holds : Rows.TopHolySaid :=
  OpenClaim.holds_of_wide 3 Tryz.f3 rfl rfl rfl rfl rfl rfl rfl ⟨rfl, rfl, rfl, rfl, rfl⟩ rfl rfl rfl rfl rfl jName Tryz.func3 joined jInst jWrap
    (fun os started H enc _ => lifted os started H enc)

theorem proved : Rows.TopHolyCardSaid :=
  Claim7.holds_tied_plain_at .later [] [.data, .data, .handle] true (true, "f38a9205bcdff77e647f7c31a1369ed1076b6e733b9b125c80a93f9353020eb4") true
    row_holds (fun _ h => by cases h) (by kernel_rfl) (fun _ h => by cases h) topHoly_row_tie rfl ⟨rfl, rfl⟩ (by kernel_rfl) rfl
    (fun f fn hf hfn => by
      obtain rfl : f = 3 := Option.some.inj ((show Tryz.prog.funcNamed "newel/neweltop.TopHoly" = some 3 from jName).symm.trans hf) |>.symm
      obtain rfl : fn = Tryz.f3 := (Option.some.inj (Tryz.func3.symm.trans hfn)).symm
      exact ⟨by kernel_rfl, fun j t ht => by
        rw [Tryz.params3] at ht
        have hm : t ∈ [33, 35, 3] := by simpa using Array.mem_of_getElem? ht
        have hall : ([33, 35, 3].all fun u => !Tryz.prog.wantsStandIn u) = true := by kernel_rfl
        exact (show Tryz.prog.wantsStandIn t = false by simpa using List.all_eq_true.1 hall t hm)⟩)
    (by kernel_rfl)
#print axioms proved
end Go.Proofs.YtfnifgppblbjhaaGreatDoor.topHoly
