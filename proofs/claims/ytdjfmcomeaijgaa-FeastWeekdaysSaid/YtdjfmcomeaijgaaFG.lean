/- feast.kind, feast.Kind and feast.Rest. -/
import Derived.Test.YtdjfmcomeaijgaaFF
import Derived.Test.YtdjfmcomeaijgaaFA
import Derived.Test.YtdjfmcomeaijgaaH7
namespace Go.Proofs.Ytdjfmcomeaijgaa
open Go Go.RowKit
set_option linter.unusedVariables false
set_option linter.unusedSimpArgs false

theorem list21 {l : List Value} (h : l.length = 21) : ∃ a0 a1 a2 a3 a4 a5 a6 a7 a8 a9 a10 a11 a12 a13 a14 a15 a16 a17 a18 a19 a20, l = [a0, a1, a2, a3, a4, a5, a6, a7, a8, a9, a10, a11, a12, a13, a14, a15, a16, a17, a18, a19, a20] := by
  match l, h with
  | [a0, a1, a2, a3, a4, a5, a6, a7, a8, a9, a10, a11, a12, a13, a14, a15, a16, a17, a18, a19, a20], _ => exact ⟨a0, a1, a2, a3, a4, a5, a6, a7, a8, a9, a10, a11, a12, a13, a14, a15, a16, a17, a18, a19, a20, rfl⟩

theorem kind_end {W0 : World} {b0 : Nat} {m d : Int} {ab : Bool} {listed : Array Bool} {a : Act} {w : World} (h : KInv W0 b0 m d ab listed a w) (hr : Region.ready .any (opsIn2 Try.f69.body) listed = []) :
    ∃ p, W0.heap.size ≤ p ∧ a.tmps[5]? = some (.pointer (some ⟨p, 0, none⟩)) ∧ BlockIs w p #[.int .i64 (holyV m d).1, .bool (holyV m d).2] 69 := by
  have hl := all_listed kindEdges (by rw [kindOps_size]; exact h.size) hr
  rw [kindOps_size] at hl
  exact h.st (hl 8 (by omega))

theorem kind_start {W0 : World} {b0 : Nat} {m d : Int} {ab : Bool} {a : Act} (ht : a.tmps.size = 21) (hd : a.defers = []) (h1 : a.tmps[1]? = some (.bool ab)) (h2 : a.tmps[2]? = some (.pointer (some ⟨b0, 0, none⟩))) : KInv W0 b0 m d ab (Array.replicate 9 false) a W0 := by
  have z : ∀ i, (Array.replicate 9 false).getD i false = false := fun i => by
    by_cases c : i < 9
    · simp [c]
    · simp [Array.getElem?_eq_none, c]
  refine ⟨by simp, ht, hd, Below.refl _ _, h1, h2, ?_, ?_, ?_, ?_, ?_⟩
  · intro x _ c; rw [z] at c; cases c
  · intro c; rw [z] at c; cases c
  · intro c; rw [z] at c; cases c
  · intro c; rw [z] at c; cases c
  · intro c; rw [z] at c; cases c

set_option maxHeartbeats 1000000 in
theorem fkind_ok (y m d k : Int) (ab : Bool) (w : World) (hm : (Lit.int .i64 m).wf = true) (hd : (Lit.int .i64 d).wf = true) (hk : kindV m d ab = k) :
    Calls Try.prog 69 #[.agg #[.int .i64 y, .int .i64 m, .int .i64 d], .bool ab] w fun e w' => e = .returned (.int .i64 k) ∧ Below w.heap.size w w' := by
  have hA := ((Below.refl w.heap.size w).alloc (Nat.le_refl _) (.cells #[.int .i64 y, .int .i64 m, .int .i64 d] 36)).drew
  have kA := (BlockIs.new w #[.int .i64 y, .int .i64 m, .int .i64 d] 36).drew
  have HK := Lib.hid hk
  clear hk
  go_enter Try.func69, Try.ntmps69
  go_wp2_with fail
  refine wp_region_any mixedS2 ?_
  refine wpAny_inv (ops := opsIn2 Try.f69.body) (KInv (w.alloc (.cells #[.int .i64 y, .int .i64 m, .int .i64 d] 36)).drew w.heap.size m d ab) (fun listed a w' i h hi => kind_step hm hd (kA.cell rfl) (kA.cell rfl) h hi) ?fin _ _ _ _ (by simp) (kind_start rfl rfl rfl rfl)
  case fin =>
    intro listed a w' h hr
    obtain ⟨p, p1, p2, p3⟩ := kind_end h hr
    have t1 := h.t1
    have t2 := h.t2
    have hz := h.tmps
    have hds := h.defers
    have hB := Lib.hid (hA.trans (h.below.mono hA.size))
    have q0 : w'.cell? ⟨p, 0, none⟩ = some (.int .i64 (holyV m d).1) := p3.cell rfl
    have q1 : w'.cell? ⟨p, 1, none⟩ = some (.bool (holyV m d).2) := p3.cell rfl
    have HK2 := Lib.hid (show (if (ab || !(holyV m d).2) = true then (holyV m d).1 else 0) = k from HK.out)
    clear h p3 HK hA kA hr
    generalize (holyV m d).1 = K at *
    generalize (holyV m d).2 = X at *
    obtain ⟨ts, ds⟩ := a
    obtain ⟨ts⟩ := ts
    simp only at t1 t2 hz hds p2
    obtain ⟨a0, a1, a2, a3, a4, a5, a6, a7, a8, a9, a10, a11, a12, a13, a14, a15, a16, a17, a18, a19, a20, rfl⟩ := list21 (l := ts) (by simpa using hz)
    subst hds
    simp at t1 t2 p2
    subst t1 t2 p2
    cases ab <;> cases X
    all_goals
      go_wp2
      go_ret
      exact ⟨one (by rw [← HK2.out]; rfl), hB.out⟩

end Go.Proofs.Ytdjfmcomeaijgaa
