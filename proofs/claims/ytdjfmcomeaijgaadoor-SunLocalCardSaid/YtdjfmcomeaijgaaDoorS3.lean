/- newelref07.Check: may a table be? -/
import Derived.Test.YtdjfmcomeaijgaaDoorS2
namespace Go.Proofs.YtdjfmcomeaijgaaDoor
open Go Go.RowKit
set_option linter.unusedVariables false
set_option linter.unusedSimpArgs false

set_option maxHeartbeats 2000000 in
theorem rscheck_any (f : Nat → Int) (r : Int) (w : World) (hr : sunErr f = r) (hf : ∀ i, i < 12 → I64 (f i)) :
    Calls Tryd.prog 37 #[.agg (sunArr f)] w fun e w' => e = .returned (.int .i64 r) ∧ Below w.heap.size w w' := by
  have HR := Lib.hid hr
  clear hr
  unfold sunArr
  go_enter Tryd.func37, Tryd.ntmps37
  go_wp2_with fail
  have hW0 : Below w.heap.size w (w.alloc (.cells (sunArr f) 40)) := (Below.refl _ _).alloc (Nat.le_refl _) _
  have bS := BlockIs.new w (sunArr f) 40
  unfold sunArr at hW0
  rw [show sunArr f = #[.int .i64 (f 0), .int .i64 (f 1), .int .i64 (f 2), .int .i64 (f 3), .int .i64 (f 4), .int .i64 (f 5), .int .i64 (f 6), .int .i64 (f 7), .int .i64 (f 8), .int .i64 (f 9), .int .i64 (f 10), .int .i64 (f 11)] from rfl] at bS
  generalize (w.alloc (.cells (#[.int .i64 (f 0), .int .i64 (f 1), .int .i64 (f 2), .int .i64 (f 3), .int .i64 (f 4), .int .i64 (f 5), .int .i64 (f 6), .int .i64 (f 7), .int .i64 (f 8), .int .i64 (f 9), .int .i64 (f 10), .int .i64 (f 11)]) 40)) = W0 at *
  have hsa := fun (i : Nat) (h : i < 12) => BlockIs.cell (cs := sunArr f) bS (sunArr_at f h)
  have HS := Lib.hid bS
  clear bS
  go_loopw [3] (fun idx wr => ∃ k : Nat, k ≤ 12 ∧ idx = .int .i64 (k : Int) ∧ (∀ i, i < k → 900 ≤ f i ∧ f i ≤ 1320) ∧ W0 = wr) (fun i _ => (12 - intOf i).toNat)
  case atStart => exact ⟨0, by omega, rfl, fun i h => by omega, rfl⟩
  case round =>
    obtain ⟨k, hk, rfl, hin, rfl⟩ := hrel
    by_cases hlt : k < 12
    · have hc := hsa k hlt
      by_cases h1 : f k < 900
      · have H := Lib.hid (HR.out.symm.trans (sunErr_70 hlt (.inl h1)))
        go_wp2_with fail
        go_ret
        exact ⟨one H.out.symm, hW0⟩
      · by_cases h2 : 1320 < f k
        · have H := Lib.hid (HR.out.symm.trans (sunErr_70 hlt (.inr h2)))
          have h1 : 900 ≤ f k := by omega
          go_wp2_with fail
          go_ret
          exact ⟨one H.out.symm, hW0⟩
        · have h1 : 900 ≤ f k := by omega
          have h2 : f k ≤ 1320 := by omega
          go_wp2_with fail
          go_round
          case rel => exact ⟨k + 1, by omega, by go_num, fun i h => by
            by_cases c : i = k
            · subst c; exact ⟨h1, h2⟩
            · exact hin i (by omega), trivial⟩
          case measure => simp [intOf]; omega
    · have e : k = 12 := by omega
      have hIn : SunIn f := by subst e; exact hin
      have e' : (k : Int) = 12 := by omega
      rw [e']
      clear hin e e' hlt hk
      go_wp2_with fail
      go_loopw [4, 5] (fun idx _ wr => ∃ k : Nat, k ≤ 12 ∧ idx = .int .i64 (k : Int) ∧ (∀ i, i < k → f ((i + 1) % 12) - f i ≤ 120 ∧ -120 ≤ f ((i + 1) % 12) - f i) ∧ (∀ i, i < 12 → wr.cell? ⟨w.heap.size, i, none⟩ = some (.int .i64 (f i))) ∧ Below w.heap.size w wr) (fun i _ _ => (12 - intOf i).toNat)
      case atStart => exact ⟨0, by omega, rfl, fun i h => by omega, hsa, hW0⟩
      case round =>
        obtain ⟨k, hk, rfl, hby, hS, hB⟩ := hrel
        by_cases hlt : k < 12
        · have i1 := hIn k hlt
          have i2 := hIn ((k + 1) % 12) (Nat.mod_lt _ (by omega))
          have g0 := hS k hlt
          have g1 := hS ((k + 1) % 12) (Nat.mod_lt _ (by omega))
          have em : ((k : Int) + 1) % 12 = (((k + 1) % 12 : Nat) : Int) := by omega
          have hm1 : (0 : Int) ≤ (((k + 1) % 12 : Nat) : Int) := by omega
          have hm2 : (((k + 1) % 12 : Nat) : Int) < 12 := by omega
          have E1 := Lib.hid (show ∀ i, i < k → f ((i + 1) % 12) - f i ≤ 120 ∧ -120 ≤ f ((i + 1) % 12) - f i from hby)
          have HSS := Lib.hid (show ∀ i, i < 12 → wr.cell? ⟨w.heap.size, i, none⟩ = some (.int .i64 (f i)) from hS)
          clear hS hsa hby hW0
          generalize hq : (k + 1) % 12 = q at *
          by_cases h1 : 120 < f q - f k
          · have H := Lib.hid (HR.out.symm.trans (sunErr_71 hlt hIn (.inl (by rw [hq]; exact h1))))
            have hd1 : decide (120 < f q - f k) = true := by simpa using h1
            go_wp2_with fail
            go_quiet (fail)
            go_wp2_with fail
            go_ret
            exact ⟨one H.out.symm, below_drewN hB _⟩
          · by_cases h2 : f q - f k < -120
            · have H := Lib.hid (HR.out.symm.trans (sunErr_71 hlt hIn (.inr (by rw [hq]; exact h2))))
              have hd1 : decide (120 < f q - f k) = false := by simpa using h1
              have hd2 : decide (f q - f k < -120) = true := by simpa using h2
              go_wp2_with fail
              go_quiet (fail)
              go_wp2_with fail
              go_ret
              exact ⟨one H.out.symm, below_drewN hB _⟩
            · have hd1 : decide (120 < f q - f k) = false := by simpa using h1
              have hd2 : decide (f q - f k < -120) = false := by simpa using h2
              have H := Lib.hid (show ∀ i, i < k + 1 → f ((i + 1) % 12) - f i ≤ 120 ∧ -120 ≤ f ((i + 1) % 12) - f i from fun i h => by
                by_cases c : i = k
                · subst c; rw [hq]; exact ⟨by omega, by omega⟩
                · exact E1.out i (by omega))
              go_wp2_with fail
              go_quiet (fail)
              go_wp2_with fail
              go_round
              case rel => exact ⟨k + 1, by omega, by go_num, H.out, HSS.out, below_drewN hB _⟩
              case measure => simp [intOf]; omega
        · have e : k = 12 := by omega
          subst e
          have H := Lib.hid (HR.out.symm.trans (sunErr_0 hIn hby))
          go_wp2_with fail
          go_ret
          exact ⟨one H.out.symm, hB⟩

end Go.Proofs.YtdjfmcomeaijgaaDoor
