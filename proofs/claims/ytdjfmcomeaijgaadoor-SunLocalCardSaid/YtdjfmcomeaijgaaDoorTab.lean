/- The table of the months' lengths, as the program's text lays it: what the row's condition gives a walk, and a world that meets it. -/
import Derived.Test.YtdjfmcomeaijgaaDoorRows
import Derived.Test.YtdjfmcomeaijgaaDoorF0
import Derived.ProofKit
import Derived.LaidMore
import Derived.OpenShut
import Derived.Stop.Joined
import Derived.Deep.Draws
namespace Go.Proofs.YtdjfmcomeaijgaaDoor
open Go.ChangeShapes Go.WideShapes Go.ChangeAt Go.RowKit

theorem gLen : Tryd.prog.globalNamed "newel/greg.lengths" = some 0 := by kernel_rfl
theorem tLen : (Tryd.prog.globals[0]?).map (·.type) = some 39 := by kernel_rfl
theorem cLen : Tryd.prog.cellsOf 39 = 12 := by kernel_rfl
theorem cInt : Tryd.prog.cellsOf 3 = 1 := by kernel_rfl

theorem door_met (os : Os) (args : Array Value) : laidMetH Tryd.prog [("newel/greg.lengths", Rows.laid_newel_greg_lengths)] ((World.doorLaid Tryd.prog 400 os).forCall (fun _ _ => 0) ⟨#[], args, []⟩).memory :=
  laidMetH_of_parts3 (fuel := 8) (laidMet_of_run' 8 (by kernel_rfl) (by kernel_rfl)) (by kernel_rfl) (by kernel_rfl)

/-- The table's twelve cells. -/
def lens : List Int := [31, 28, 31, 30, 31, 30, 31, 31, 30, 31, 30, 31]
structure Tab (w : World) : Prop where
  size : 0 < w.heap.size
  cell : ∀ i, i < 12 → w.cell? ⟨0, i, none⟩ = some (.int .i64 (lens.getD i 0))

theorem Tab.below {w w' : World} (h : Tab w) (hb : Below w.heap.size w w') : Tab w' :=
  ⟨Nat.lt_of_lt_of_le h.size hb.size, fun i hi => (hb.cell (p := ⟨0, i, none⟩) h.size).trans (h.cell i hi)⟩

theorem Tab.drewN {w : World} (h : Tab w) (n : Nat) : Tab (w.drewN n) := ⟨h.size, h.cell⟩
theorem Tab.drew {w : World} (h : Tab w) : Tab w.drew := ⟨h.size, h.cell⟩
theorem Tab.alloc {w : World} (h : Tab w) (o : Obj) : Tab (w.alloc o) := h.below ((Below.refl _ _).alloc (Nat.le_refl _) _)

theorem tab_of_laid {W : World} (h : laidMetH Tryd.prog [("newel/greg.lengths", Rows.laid_newel_greg_lengths)] W) : Tab W := by
  rw [MakeChecks.laidMetH_plain _ _ _ (by kernel_rfl)] at h
  obtain ⟨ps, ⟨g0, t0, cs0, f0, p0, q0, hg0, ht0, hv0, hd0, _, _⟩, _, _⟩ := h
  obtain rfl := Option.some.inj (gLen.symm.trans hg0)
  obtain rfl := Option.some.inj (tLen.symm.trans ht0)
  obtain ⟨xs, m1, rfl, hx1, hlen, hn3, hel⟩ := DataW.trod_array Tryd.underlying39 hd0
  rw [cLen] at hlen
  simp only [Prod.mk.injEq] at hx1
  have hcells : ∀ i, i < 12 → cs0[i]? = some (.int .i64 (lens.getD i 0)) := by
    intro i hi
    have e := hel i hi
    rw [cInt, Nat.mul_one] at e
    have hxi : xs[i]? = some (xs[i]'(by omega)) := List.getElem?_eq_getElem (by omega)
    obtain ⟨k, e1, e2, _⟩ := DataW.trod_int Tryd.underlying3 (e.trans hxi)
    have hd : (xs.map (·.1))[i]? = some (.lit (.int .i64 k)) := by rw [List.getElem?_map, hxi, Option.map_some, e2]
    have hk : k = lens.getD i 0 := by
      have hx2 := hx1.1
      unfold Rows.laid_newel_greg_lengths at hx2
      have hx3 := DataW.agg.inj hx2
      rw [← hx3] at hd
      have : i = 0 ∨ i = 1 ∨ i = 2 ∨ i = 3 ∨ i = 4 ∨ i = 5 ∨ i = 6 ∨ i = 7 ∨ i = 8 ∨ i = 9 ∨ i = 10 ∨ i = 11 := by omega
      rcases this with c | c | c | c | c | c | c | c | c | c | c | c <;> subst c <;> (simp at hd; rw [← hd]; rfl)
    have h1 : ((cs0.toList.drop i).take 1)[0]? = some (.int .i64 k) := by rw [e1]; rfl
    rw [List.getElem?_take] at h1
    simp only [Nat.lt_add_one, if_true, List.getElem?_drop, Nat.add_zero] at h1
    rw [← hk]
    simpa using h1
  refine ⟨?_, fun i hi => ?_⟩
  · have c0 := (World.var?_cell hg0 hv0 0).trans (hcells 0 (by omega))
    exact World.block_lt_of_cell? W _ c0
  · exact (World.var?_cell hg0 hv0 i).trans (hcells i hi)

end Go.Proofs.YtdjfmcomeaijgaaDoor
