/- sunset.months: two minutes of a table. -/
import Derived.Test.YtdjfmcomeaijgaaDoorS0
import Derived.Deep.AppendLies
import Derived.OwnWalk
import Derived.Maps.AppendAt
namespace Go.Proofs.YtdjfmcomeaijgaaDoor
open Go Go.RowKit
set_option linter.unusedVariables false
set_option linter.unusedSimpArgs false

theorem int_info : (Tryd.prog.info? 3).map (fun i => (i.zero, i.size, i.bytes)) = some (some (.int .i64 0), 1, 8) := by kernel_rfl
theorem BlockIs.grownNot {W W' : World} {b : Nat} {cs : Array Value} {t : TypeId} {row : Option Nat} (h : BlockIs W b cs t) (hg : W.grownBy W' row) (hr : some b ≠ row) : BlockIs W' b cs t := (hg.block b h.lt hr).trans h

set_option maxHeartbeats 2000000 in
theorem smonths_ok (f : Nat → Int) (a b l : Nat) (w : World) (hl : BlockIs w l #[.int .i64 a, .int .i64 b] 3) (ha : a < 100) (hb : b < 100) :
    Calls Tryd.prog 60 #[.agg (sunArr f), .slice (some ⟨l, 0, none⟩) 2 2] w fun e w' => ∃ g cap, e = .returned (.slice (some ⟨g, 0, none⟩) 2 cap) ∧ w'.cell? ⟨g, 0, none⟩ = some (.int .i64 (f (a % 12))) ∧ w'.cell? ⟨g, 1, none⟩ = some (.int .i64 (f (b % 12))) ∧ w.heap.size ≤ g ∧ g < w'.heap.size ∧ Below w.heap.size w w' := by
  obtain ⟨i0, hi, hz0, hz1, hz2⟩ := info_parts int_info
  unfold sunArr
  go_enter Tryd.func60, Tryd.ntmps60
  go_wp2_with fail
  have hW0 : Below w.heap.size w (w.alloc (.cells (sunArr f) 40)) := (Below.refl _ _).alloc (Nat.le_refl _) _
  have bS := BlockIs.new w (sunArr f) 40
  have bL := hl.alloc (.cells (sunArr f) 40)
  have hzl := hl.lt
  have hzs : (w.alloc (.cells (sunArr f) 40)).heap.size = w.heap.size + 1 := by simp
  have hown := World.ownsRow_nil (w.alloc (.cells (sunArr f) 40)) (w.heap.size + 1) 3 1
  unfold sunArr at hW0 bS bL hzs hown
  generalize (w.alloc (.cells (#[.int .i64 (f 0), .int .i64 (f 1), .int .i64 (f 2), .int .i64 (f 3), .int .i64 (f 4), .int .i64 (f 5), .int .i64 (f 6), .int .i64 (f 7), .int .i64 (f 8), .int .i64 (f 9), .int .i64 (f 10), .int .i64 (f 11)]) 40)) = W0 at *
  go_loopw [5, 10] (fun out idx wr => ∃ k : Nat, k ≤ 2 ∧ idx = .int .i64 (k : Int) ∧ wr.ownsRow (w.heap.size + 1) 3 1 out k (([.int .i64 (f (a % 12)), .int .i64 (f (b % 12))] : List Value).take k) ∧ BlockIs wr w.heap.size (sunArr f) 40 ∧ BlockIs wr l #[.int .i64 a, .int .i64 b] 3 ∧ Below w.heap.size w wr ∧ w.heap.size + 1 ≤ wr.heap.size) (fun _ i _ => (2 - intOf i).toNat)
  case atStart => exact ⟨0, by omega, rfl, hown, bS, bL, hW0, by omega⟩
  case round =>
    obtain ⟨k, hk, rfl, hown, bS, bL, hB, hz⟩ := hrel
    have k0 : wr.cell? ⟨l, 0, none⟩ = some (.int .i64 (a : Int)) := bL.cell rfl
    have k1 : wr.cell? ⟨l, 1, none⟩ = some (.int .i64 (b : Int)) := bL.cell rfl
    have hsa := fun (i : Nat) (h : i < 12) => bS.cell (sunArr_at f h)
    have e0 := hsa (a % 12) (by omega)
    have e1 := hsa (b % 12) (by omega)
    have hk3 : k = 0 ∨ k = 1 ∨ k = 2 := by omega
    rcases hk3 with e | e | e <;> subst e
    · go_wp2_with (first | (at_builtin; refine wpList_append_lies _ rfl (.tmp 14) (.tmp 19) 60 rfl (w.heap.size + 1) 3 i0 (.int .i64 0) 1 8 Tryd.underlying60 hi hz0 hz1 hz2 rfl (by decide) _ 0 _ rfl (hown.alloc _) ⟨wr.heap.size, 0, none⟩ 1 1 [.int .i64 (f (a % 12))] rfl rfl (cell_one_new _ _ _) (by intro u hu; simp at hu; subst hu; rfl) (by omega) (by unfold maxLen; omega) (by omega) (by simp; omega) _ rfl ?_; intro g cap w' h2 h3 h4 h5))
      have hnb : ∀ k, some k = Value.ownBlock _ → w.heap.size + 1 ≤ k := fun k e => (hown.lt k e.symm).1
      refine ⟨⟨1, by omega, rfl, by simpa using h2, (bS.alloc _).grownNot h3 (fun e => by have := hnb _ e; omega), (bL.alloc _).grownNot h3 (fun e => by have := hnb _ e; omega), (hB.alloc hB.size _).grown h3 (by simp; omega) (fun k e => by have := hnb k e.symm; omega), by have := h3.size; simp at this; omega⟩, by simp [intOf]⟩
    · go_wp2_with (first | (at_builtin; refine wpList_append_lies _ rfl (.tmp 14) (.tmp 19) 60 rfl (w.heap.size + 1) 3 i0 (.int .i64 0) 1 8 Tryd.underlying60 hi hz0 hz1 hz2 rfl (by decide) _ 1 _ rfl (hown.alloc _) ⟨wr.heap.size, 0, none⟩ 1 1 [.int .i64 (f (b % 12))] rfl rfl (cell_one_new _ _ _) (by intro u hu; simp at hu; subst hu; rfl) (by omega) (by unfold maxLen; omega) (by omega) (by simp; omega) _ rfl ?_; intro g cap w' h2 h3 h4 h5))
      have hnb : ∀ k, some k = Value.ownBlock _ → w.heap.size + 1 ≤ k := fun k e => (hown.lt k e.symm).1
      refine ⟨⟨2, by omega, rfl, by simpa using h2, (bS.alloc _).grownNot h3 (fun e => by have := hnb _ e; omega), (bL.alloc _).grownNot h3 (fun e => by have := hnb _ e; omega), (hB.alloc hB.size _).grown h3 (by simp; omega) (fun k e => by have := hnb k e.symm; omega), by have := h3.size; simp at this; omega⟩, by simp [intOf]⟩
    · obtain ⟨g, cap, rfl, hg1, hg2⟩ := hown.form (by omega)
      have hc := hown.cells (g := g) rfl
      have y0 := hc 0 _ rfl
      have y1 := hc 1 _ rfl
      go_wp2
      go_ret
      exact ⟨g, cap, rfl, by simpa [Addr.add] using y0, by simpa [Addr.add] using y1, by omega, hg2, hB⟩

theorem smonths_at (f : Nat → Int) (a b : Int) (A B l : Nat) (w : World) (hl : BlockIs w l #[.int .i64 a, .int .i64 b] 3) (ha : a = (A : Int)) (hb : b = (B : Int)) (hA : A < 100) (hB : B < 100) :
    Calls Tryd.prog 60 #[.agg (sunArr f), .slice (some ⟨l, 0, none⟩) 2 2] w fun e w' => ∃ g cap, e = .returned (.slice (some ⟨g, 0, none⟩) 2 cap) ∧ w'.cell? ⟨g, 0, none⟩ = some (.int .i64 (f (A % 12))) ∧ w'.cell? ⟨g, 1, none⟩ = some (.int .i64 (f (B % 12))) ∧ w.heap.size ≤ g ∧ g < w'.heap.size ∧ Below w.heap.size w w' := by
  subst ha hb
  exact smonths_ok f A B l w hl hA hB

end Go.Proofs.YtdjfmcomeaijgaaDoor
