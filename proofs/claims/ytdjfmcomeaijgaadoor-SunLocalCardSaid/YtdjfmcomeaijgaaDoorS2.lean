/- sunset.Check: may a table be? -/
import Derived.Test.YtdjfmcomeaijgaaDoorS1
namespace Go.Proofs.YtdjfmcomeaijgaaDoor
open Go Go.RowKit
set_option linter.unusedVariables false
set_option linter.unusedSimpArgs false

theorem sun_index (f : Nat → Int) (k : Nat) (h : k < 12) : ∀ w, (Instr.index 40 (.agg (sunArr f)) (.int .i64 (k : Int))).run Tryd.prog w = .ok (.int .i64 (f k)) w := by
  rcases twelve h with e | e | e | e | e | e | e | e | e | e | e | e <;> subst e <;> intro w <;> kernel_rfl

set_option maxHeartbeats 2000000 in
theorem scheck_any (f : Nat → Int) (r : Int) (w : World) (hr : sunErr f = r) (hf : ∀ i, i < 12 → I64 (f i)) :
    Calls Tryd.prog 36 #[.agg (sunArr f)] w fun e w' => e = .returned (.int .i64 r) ∧ Below w.heap.size w w' := by
  have HR := Lib.hid hr
  clear hr
  have hix := sun_index f
  unfold sunArr at hix ⊢
  go_enter Tryd.func36, Tryd.ntmps36
  go_wp2_with fail
  have hW0 : Below w.heap.size w (w.alloc (.cells (sunArr f) 40)) := (Below.refl _ _).alloc (Nat.le_refl _) _
  have bS := BlockIs.new w (sunArr f) 40
  unfold sunArr at hW0 bS
  generalize (w.alloc (.cells (#[.int .i64 (f 0), .int .i64 (f 1), .int .i64 (f 2), .int .i64 (f 3), .int .i64 (f 4), .int .i64 (f 5), .int .i64 (f 6), .int .i64 (f 7), .int .i64 (f 8), .int .i64 (f 9), .int .i64 (f 10), .int .i64 (f 11)]) 40)) = W0 at *
  go_loopw [4, 9] (fun u idx wr => ∃ k : Nat, k ≤ 12 ∧ idx = .int .i64 (k : Int) ∧ (∀ i, i < k → 900 ≤ f i ∧ f i ≤ 1320) ∧ W0 = wr) (fun _ i _ => (12 - intOf i).toNat)
  case atStart => exact ⟨0, by omega, rfl, fun i h => by omega, rfl⟩
  case round =>
    obtain ⟨k, hk, rfl, hin, rfl⟩ := hrel
    by_cases hlt : k < 12
    · have hix' := hix k hlt
      by_cases h1 : f k < 900
      · have H := Lib.hid (HR.out.symm.trans (sunErr_70 hlt (.inl h1)))
        go_wp2_with fail
        go_ret
        exact ⟨one H.out.symm, hW0⟩
      · by_cases h2 : 1320 < f k
        · have H := Lib.hid (HR.out.symm.trans (sunErr_70 hlt (.inr h2)))
          have h1 : 900 ≤ f k := by omega
          go_wp2_with fail
          go_ret
          exact ⟨one H.out.symm, hW0⟩
        · have h1 : 900 ≤ f k := by omega
          have h2 : f k ≤ 1320 := by omega
          go_wp2_with fail
          go_round
          case rel => exact ⟨k + 1, by omega, by go_num, fun i h => by
            by_cases c : i = k
            · subst c; exact ⟨h1, h2⟩
            · exact hin i (by omega), trivial⟩
          case measure => simp [intOf]; omega
    · have e : k = 12 := by omega
      have hIn : SunIn f := by subst e; exact hin
      have e' : (k : Int) = 12 := by omega
      rw [e']
      clear hin hix e e' hlt hk
      go_wp2_with fail
      go_loopw [5, 6, 7, 19] (fun _ _ _ idx wr => ∃ k : Nat, k ≤ 12 ∧ idx = .int .i64 (k : Int) ∧ (∀ i, i < k → f ((i + 1) % 12) - f i ≤ 120 ∧ -120 ≤ f ((i + 1) % 12) - f i) ∧ BlockIs wr w.heap.size (sunArr f) 40 ∧ Below w.heap.size w wr) (fun _ _ _ i _ => (12 - intOf i).toNat)
      case atStart => exact ⟨0, by omega, rfl, fun i h => by omega, bS, hW0⟩
      case round =>
        obtain ⟨k, hk, rfl, hby, hS, hB⟩ := hrel
        by_cases hlt : k < 12
        · have z0 : wr.cell? ⟨w.heap.size, 0, none⟩ = some (.int .i64 (f 0)) := hS.cell rfl
          have z1 : wr.cell? ⟨w.heap.size, 1, none⟩ = some (.int .i64 (f 1)) := hS.cell rfl
          have z2 : wr.cell? ⟨w.heap.size, 2, none⟩ = some (.int .i64 (f 2)) := hS.cell rfl
          have z3 : wr.cell? ⟨w.heap.size, 3, none⟩ = some (.int .i64 (f 3)) := hS.cell rfl
          have z4 : wr.cell? ⟨w.heap.size, 4, none⟩ = some (.int .i64 (f 4)) := hS.cell rfl
          have z5 : wr.cell? ⟨w.heap.size, 5, none⟩ = some (.int .i64 (f 5)) := hS.cell rfl
          have z6 : wr.cell? ⟨w.heap.size, 6, none⟩ = some (.int .i64 (f 6)) := hS.cell rfl
          have z7 : wr.cell? ⟨w.heap.size, 7, none⟩ = some (.int .i64 (f 7)) := hS.cell rfl
          have z8 : wr.cell? ⟨w.heap.size, 8, none⟩ = some (.int .i64 (f 8)) := hS.cell rfl
          have z9 : wr.cell? ⟨w.heap.size, 9, none⟩ = some (.int .i64 (f 9)) := hS.cell rfl
          have z10 : wr.cell? ⟨w.heap.size, 10, none⟩ = some (.int .i64 (f 10)) := hS.cell rfl
          have z11 : wr.cell? ⟨w.heap.size, 11, none⟩ = some (.int .i64 (f 11)) := hS.cell rfl
          go_wp2_with fail
          have hS1 := hS.alloc (.cells #[.int .i64 (k : Int), .int .i64 ((k : Int) + 1)] 3)
          have hB1 := hB.alloc hB.size (.cells #[.int .i64 (k : Int), .int .i64 ((k : Int) + 1)] 3)
          refine (smonths_at f _ _ k (k + 1) _ _ (BlockIs.new _ _ _) rfl (by omega) (by omega) (by omega)).mono ?_
          rintro e w2 ⟨g, cap, rfl, g0, g1, hg1, hg2, hb2⟩
          have hS2 := hS1.kept hb2
          have hB2 := hB1.trans (hb2.mono hB1.size)
          rw [Nat.mod_eq_of_lt hlt] at g0
          have i1 := hIn k hlt
          have i2 := hIn ((k + 1) % 12) (Nat.mod_lt _ (by omega))
          have E1 := Lib.hid (show ∀ i, i < k → f ((i + 1) % 12) - f i ≤ 120 ∧ -120 ≤ f ((i + 1) % 12) - f i from hby)
          clear z0 z1 z2 z3 z4 z5 z6 z7 z8 z9 z10 z11 hS hB hS1 hB1 hb2 bS hW0 hby
          by_cases h1 : 120 < f ((k + 1) % 12) - f k
          · have H := Lib.hid (HR.out.symm.trans (sunErr_71 hlt hIn (.inl h1)))
            have hd1 : decide (120 < f ((k + 1) % 12) - f k) = true := by simpa using h1
            go_wp2_with fail
            go_quiet (fail)
            go_wp2_with fail
            go_ret
            exact ⟨one H.out.symm, below_drewN hB2 _⟩
          · by_cases h2 : f ((k + 1) % 12) - f k < -120
            · have H := Lib.hid (HR.out.symm.trans (sunErr_71 hlt hIn (.inr h2)))
              have hd1 : decide (120 < f ((k + 1) % 12) - f k) = false := by simpa using h1
              have hd2 : decide (f ((k + 1) % 12) - f k < -120) = true := by simpa using h2
              go_wp2_with fail
              go_quiet (fail)
              go_wp2_with fail
              go_ret
              exact ⟨one H.out.symm, below_drewN hB2 _⟩
            · have hd1 : decide (120 < f ((k + 1) % 12) - f k) = false := by simpa using h1
              have hd2 : decide (f ((k + 1) % 12) - f k < -120) = false := by simpa using h2
              have H := Lib.hid (show ∀ i, i < k + 1 → f ((i + 1) % 12) - f i ≤ 120 ∧ -120 ≤ f ((i + 1) % 12) - f i from fun i h => by
                by_cases c : i = k
                · subst c; exact ⟨by omega, by omega⟩
                · exact E1.out i (by omega))
              go_wp2_with fail
              go_quiet (fail)
              go_wp2_with fail
              go_round
              case rel => exact ⟨k + 1, by omega, by go_num, H.out, hS2.drewN _, below_drewN hB2 _⟩
              case measure => simp [intOf]; omega
        · have e : k = 12 := by omega
          subst e
          have H := Lib.hid (HR.out.symm.trans (sunErr_0 hIn hby))
          go_wp2_with fail
          go_ret
          exact ⟨one H.out.symm, hB⟩

end Go.Proofs.YtdjfmcomeaijgaaDoor
