/- Rows of whole numbers; the reference's Same. -/
import Derived.Test.YtdjfmcomeaijgaaDoorZE
import Derived.Test.YtdjfmcomeaijgaaDoorZC
namespace Go.Proofs.YtdjfmcomeaijgaaDoor
open Go Go.RowKit
set_option linter.unusedVariables false
set_option linter.unusedSimpArgs false

/-- v is the row xs, as it lies in w. -/
def RowV (w : World) (v : Value) (xs : List Int) : Prop := (xs = [] ∧ v = .slice none 0 0) ∨ ∃ g cap, v = .slice (some ⟨g, 0, none⟩) xs.length cap ∧ ∀ i x, xs[i]? = some x → w.cell? ⟨g, i, none⟩ = some (.int .i64 x)
theorem rowV_of {w : World} {base n : Nat} {v : Value} {xs : List Int} {ys : List Value} (h : w.ownsRow base 3 1 v n ys) (e : ys = xs.map (.int .i64)) : RowV w v xs := by
  subst e
  have hl : n = xs.length := by have := h.1; simpa using this.symm
  subst hl
  by_cases c : xs.length = 0
  · have x0 : xs = [] := List.length_eq_zero_iff.1 c
    subst x0
    rcases h.2 with ⟨h1, _⟩ | ⟨g, cap, cur, h1, h2⟩
    · exact .inl ⟨rfl, h1⟩
    · exact .inr ⟨g, cap, h1, fun i x hx => by simp at hx⟩
  · right
    obtain ⟨g, cap, hv, _, _⟩ := h.form (by omega)
    subst hv
    have hc := h.cells (g := g) rfl
    exact ⟨g, cap, rfl, fun i x hx => by
      have q := hc i (.int .i64 x) (by simp [hx])
      by_cases c0 : i = 0
      · subst c0; simpa [Addr.add] using q
      · simpa [Addr.add, c0] using q⟩
theorem RowV.below {w w' : World} {v : Value} {xs : List Int} (h : RowV w v xs) (hb : Below w.heap.size w w') : RowV w' v xs := by
  rcases h with h | ⟨g, cap, h1, h2⟩
  · exact .inl h
  · exact .inr ⟨g, cap, h1, fun i x hx => (hb.cell (p := ⟨g, i, none⟩) (World.block_lt_of_cell? w _ (h2 i x hx))).trans (h2 i x hx)⟩

set_option maxHeartbeats 2000000 in
theorem rzsame_nil (p p' : Option Addr) (c c' : Nat) (w : World) : Calls Tryd.prog 52 #[.slice p 0 c, .slice p' 0 c'] w fun e w' => e = .returned (.bool true) ∧ Below w.heap.size w w' := by
  go_enter Tryd.func52, Tryd.ntmps52
  go_wp2_with fail
  go_loopw [5] (fun i wr => i = .int .i64 0 ∧ w = wr) (fun _ _ => 0)
  case atStart => exact ⟨rfl, rfl⟩
  case round =>
    obtain ⟨rfl, rfl⟩ := hrel
    go_wp2
    go_ret
    exact ⟨rfl, Below.refl _ _⟩

set_option maxHeartbeats 2000000 in
theorem rzsame_ok (g g' cap cap' n : Nat) (xs : List Int) (w : World) (hn : xs.length = n) (h63 : n < 1000000) (ha : ∀ i x, xs[i]? = some x → w.cell? ⟨g, i, none⟩ = some (.int .i64 x)) (hb : ∀ i x, xs[i]? = some x → w.cell? ⟨g', i, none⟩ = some (.int .i64 x)) :
    Calls Tryd.prog 52 #[.slice (some ⟨g, 0, none⟩) n cap, .slice (some ⟨g', 0, none⟩) n cap'] w fun e w' => e = .returned (.bool true) ∧ Below w.heap.size w w' := by
  go_enter Tryd.func52, Tryd.ntmps52
  go_wp2_with fail
  go_loopw [5] (fun i wr => ∃ k : Nat, k ≤ n ∧ i = .int .i64 (k : Int) ∧ (∀ i x, xs[i]? = some x → wr.cell? ⟨g, i, none⟩ = some (.int .i64 x)) ∧ (∀ i x, xs[i]? = some x → wr.cell? ⟨g', i, none⟩ = some (.int .i64 x)) ∧ Below w.heap.size w wr) (fun i _ => (n - intOf i).toNat)
  case atStart => exact ⟨0, by omega, rfl, ha, hb, Below.refl _ _⟩
  case round =>
    obtain ⟨k, hk, rfl, ha, hb, hB⟩ := hrel
    by_cases c : k < n
    · have c0 := ha k xs[k] (by simp)
      have c1 := hb k xs[k] (by simp)
      generalize xs[k] = x at *
      have HB := Lib.hid hB
      have HA := Lib.hid ha
      have HB2 := Lib.hid hb
      clear ha hb hB
      go_wp2_with fail
      go_quiet (fail)
      go_wp2
      go_round
      case rel => exact ⟨k + 1, by omega, by go_num, HA.out, HB2.out, below_drewN HB.out _⟩
      case measure => simp [intOf]; omega
    · have e : k = n := by omega
      subst e
      go_wp2
      go_ret
      exact ⟨rfl, hB⟩

theorem rzsame_any (a b : Value) (xs : List Int) (w : World) (h63 : xs.length < 1000000) (ha : RowV w a xs) (hb : RowV w b xs) : Calls Tryd.prog 52 #[a, b] w fun e w' => e = .returned (.bool true) ∧ Below w.heap.size w w' := by
  rcases ha with ⟨h1, rfl⟩ | ⟨g, cap, rfl, h2⟩
  · rcases hb with ⟨h1', rfl⟩ | ⟨g', cap', rfl, h2'⟩
    · exact rzsame_nil _ _ _ _ w
    · subst h1
      exact rzsame_nil _ _ _ _ w
  · rcases hb with ⟨h1', rfl⟩ | ⟨g', cap', rfl, h2'⟩
    · subst h1'
      exact rzsame_nil _ _ _ _ w
    · exact rzsame_ok g g' cap cap' _ xs w rfl h63 h2 h2'

end Go.Proofs.YtdjfmcomeaijgaaDoor
