/- Part of the proof of TopHoly. -/
import Derived.Test.YtfnifgppblbjhaaGreatDoorY03
import Derived.Test.YtfnifgppblbjhaaGreatDoorY07
import Derived.Deep.AppendLies
import Derived.Maps.AppendAt
import Derived.OwnWalk
namespace Go.Proofs.YtfnifgppblbjhaaGreatDoor
set_option maxHeartbeats 8000000
open Go Go.RowKit
set_option linter.unusedVariables false
set_option linter.unusedSimpArgs false
theorem int_info : (Tryz.prog.info? 3).map (fun i => (i.zero, i.size, i.bytes)) = some (some (.int .i64 0), 1, 8) := by kernel_rfl
theorem BlockIs.grownNot {W W' : World} {b : Nat} {cs : Array Value} {t : TypeId} {row : Option Nat} (h : BlockIs W b cs t) (hg : W.grownBy W' row) (hr : some b ≠ row) : BlockIs W' b cs t := (hg.block b h.lt hr).trans h
theorem smonths_ok (f : Nat → Int) (a b l : Nat) (w : World) (hl : BlockIs w l #[.int .i64 a, .int .i64 b] 3) (ha : a < 100) (hb : b < 100) :
  Calls Tryz.prog 129 #[.agg (sunArr f), .slice (some ⟨l, 0, none⟩) 2 2] w fun e w' => ∃ g cap, e = .returned (.slice (some ⟨g, 0, none⟩) 2 cap) ∧ w'.cell? ⟨g, 0, none⟩ = some (.int .i64 (f (a % 12))) ∧ w'.cell? ⟨g, 1, none⟩ = some (.int .i64 (f (b % 12))) ∧ w.heap.size ≤ g ∧ g < w'.heap.size ∧ Below w.heap.size w w' := by
 obtain ⟨i0, hi, hz0, hz1, hz2⟩ := info_parts int_info
 unfold sunArr
 go_enter Tryz.func129, Tryz.ntmps129
 go_wp2_with fail
 have hW0 : Below w.heap.size w (w.alloc (.cells (sunArr f) 30)) := (Below.refl _ _).alloc (Nat.le_refl _) _
 have bS := BlockIs.new w (sunArr f) 30
 have bL := hl.alloc (.cells (sunArr f) 30)
 have hzl := hl.lt
 have hzs : (w.alloc (.cells (sunArr f) 30)).heap.size = w.heap.size + 1 := by simp
 have hown := World.ownsRow_nil (w.alloc (.cells (sunArr f) 30)) (w.heap.size + 1) 3 1
 unfold sunArr at hW0 bS bL hzs hown
 generalize (w.alloc (.cells (#[.int .i64 (f 0), .int .i64 (f 1), .int .i64 (f 2), .int .i64 (f 3), .int .i64 (f 4), .int .i64 (f 5), .int .i64 (f 6), .int .i64 (f 7), .int .i64 (f 8), .int .i64 (f 9), .int .i64 (f 10), .int .i64 (f 11)]) 30)) = W0 at *
 go_loopw [5, 10] (fun out idx wr => ∃ k : Nat, k ≤ 2 ∧ idx = .int .i64 (k : Int) ∧ wr.ownsRow (w.heap.size + 1) 3 1 out k (([.int .i64 (f (a % 12)), .int .i64 (f (b % 12))] : List Value).take k) ∧ BlockIs wr w.heap.size (sunArr f) 30 ∧ BlockIs wr l #[.int .i64 a, .int .i64 b] 3 ∧ Below w.heap.size w wr ∧ w.heap.size + 1 ≤ wr.heap.size) (fun _ i _ => (2 - intOf i).toNat)
 case atStart => exact ⟨0, by omega, rfl, hown, bS, bL, hW0, by omega⟩
 case round =>
  obtain ⟨k, hk, rfl, hown, bS, bL, hB, hz⟩ := hrel
  have k0 : wr.cell? ⟨l, 0, none⟩ = some (.int .i64 (a : Int)) := bL.cell rfl
  have k1 : wr.cell? ⟨l, 1, none⟩ = some (.int .i64 (b : Int)) := bL.cell rfl
  have hsa := fun (i : Nat) (h : i < 12) => bS.cell (sunArr_at f h)
  have e0 := hsa (a % 12) (by omega)
  have e1 := hsa (b % 12) (by omega)
  have hk3 : k = 0 ∨ k = 1 ∨ k = 2 := by omega
  rcases hk3 with e | e | e <;> subst e
  ·go_wp2_with (first | (at_builtin; refine wpList_append_lies _ rfl (.tmp 14) (.tmp 19) 22 rfl (w.heap.size + 1) 3 i0 (.int .i64 0) 1 8 Tryz.underlying22 hi hz0 hz1 hz2 rfl (by decide) _ 0 _ rfl (hown.alloc _) ⟨wr.heap.size, 0, none⟩ 1 1 [.int .i64 (f (a % 12))] rfl rfl (cell_one_new _ _ _) (by intro u hu; simp at hu; subst hu; rfl) (by omega) (by unfold maxLen; omega) (by omega) (by simp; omega) _ rfl ?_; intro g cap w' h2 h3 h4 h5))
   have hnb : ∀ k, some k = Value.ownBlock _ → w.heap.size + 1 ≤ k := fun k e => (hown.lt k e.symm).1
   refine ⟨⟨1, by omega, rfl, by simpa using h2, (bS.alloc _).grownNot h3 (fun e => by have := hnb _ e; omega), (bL.alloc _).grownNot h3 (fun e => by have := hnb _ e; omega), (hB.alloc hB.size _).grown h3 (by simp; omega) (fun k e => by have := hnb k e.symm; omega), by have := h3.size; simp at this; omega⟩, by simp [intOf]⟩
  ·go_wp2_with (first | (at_builtin; refine wpList_append_lies _ rfl (.tmp 14) (.tmp 19) 22 rfl (w.heap.size + 1) 3 i0 (.int .i64 0) 1 8 Tryz.underlying22 hi hz0 hz1 hz2 rfl (by decide) _ 1 _ rfl (hown.alloc _) ⟨wr.heap.size, 0, none⟩ 1 1 [.int .i64 (f (b % 12))] rfl rfl (cell_one_new _ _ _) (by intro u hu; simp at hu; subst hu; rfl) (by omega) (by unfold maxLen; omega) (by omega) (by simp; omega) _ rfl ?_; intro g cap w' h2 h3 h4 h5))
   have hnb : ∀ k, some k = Value.ownBlock _ → w.heap.size + 1 ≤ k := fun k e => (hown.lt k e.symm).1
   refine ⟨⟨2, by omega, rfl, by simpa using h2, (bS.alloc _).grownNot h3 (fun e => by have := hnb _ e; omega), (bL.alloc _).grownNot h3 (fun e => by have := hnb _ e; omega), (hB.alloc hB.size _).grown h3 (by simp; omega) (fun k e => by have := hnb k e.symm; omega), by have := h3.size; simp at this; omega⟩, by simp [intOf]⟩
  ·obtain ⟨g, cap, rfl, hg1, hg2⟩ := hown.form (by omega)
   have hc := hown.cells (g := g) rfl
   have y0 := hc 0 _ rfl
   have y1 := hc 1 _ rfl
   go_wp2
   go_ret
   exact ⟨g, cap, rfl, by simpa [Addr.add] using y0, by simpa [Addr.add] using y1, by omega, hg2, hB⟩
theorem smonths_at (f : Nat → Int) (a b : Int) (A B l : Nat) (w : World) (hl : BlockIs w l #[.int .i64 a, .int .i64 b] 3) (ha : a = (A : Int)) (hb : b = (B : Int)) (hA : A < 100) (hB : B < 100) :
  Calls Tryz.prog 129 #[.agg (sunArr f), .slice (some ⟨l, 0, none⟩) 2 2] w fun e w' => ∃ g cap, e = .returned (.slice (some ⟨g, 0, none⟩) 2 cap) ∧ w'.cell? ⟨g, 0, none⟩ = some (.int .i64 (f (A % 12))) ∧ w'.cell? ⟨g, 1, none⟩ = some (.int .i64 (f (B % 12))) ∧ w.heap.size ≤ g ∧ g < w'.heap.size ∧ Below w.heap.size w w' := by
 subst ha hb
 exact smonths_ok f A B l w hl hA hB
theorem sun_index (f : Nat → Int) (k : Nat) (h : k < 12) : ∀ w, (Instr.index 30 (.agg (sunArr f)) (.int .i64 (k : Int))).run Tryz.prog w = .ok (.int .i64 (f k)) w := by
 rcases twelve h with e | e | e | e | e | e | e | e | e | e | e | e <;> subst e <;> intro w <;> kernel_rfl
theorem scheck_any (f : Nat → Int) (r : Int) (w : World) (hr : sunErr f = r) (hf : ∀ i, i < 12 → I64 (f i)) :
  Calls Tryz.prog 73 #[.agg (sunArr f)] w fun e w' => e = .returned (.int .i64 r) ∧ Below w.heap.size w w' := by
 have HR := Lib.hid hr
 clear hr
 have hix := sun_index f
 unfold sunArr at hix ⊢
 go_enter Tryz.func73, Tryz.ntmps73
 go_wp2_with fail
 have hW0 : Below w.heap.size w (w.alloc (.cells (sunArr f) 30)) := (Below.refl _ _).alloc (Nat.le_refl _) _
 have bS := BlockIs.new w (sunArr f) 30
 unfold sunArr at hW0 bS
 generalize (w.alloc (.cells (#[.int .i64 (f 0), .int .i64 (f 1), .int .i64 (f 2), .int .i64 (f 3), .int .i64 (f 4), .int .i64 (f 5), .int .i64 (f 6), .int .i64 (f 7), .int .i64 (f 8), .int .i64 (f 9), .int .i64 (f 10), .int .i64 (f 11)]) 30)) = W0 at *
 go_loopw [4, 9] (fun u idx wr => ∃ k : Nat, k ≤ 12 ∧ idx = .int .i64 (k : Int) ∧ (∀ i, i < k → 900 ≤ f i ∧ f i ≤ 1320) ∧ W0 = wr) (fun _ i _ => (12 - intOf i).toNat)
 case atStart => exact ⟨0, by omega, rfl, fun i h => by omega, rfl⟩
 case round =>
  obtain ⟨k, hk, rfl, hin, rfl⟩ := hrel
  by_cases hlt : k < 12
  ·have hix' := hix k hlt
   by_cases h1 : f k < 900
   ·have H := Lib.hid (HR.out.symm.trans (sunErr_70 hlt (.inl h1)))
    go_wp2_with fail
    go_ret
    exact ⟨one H.out.symm, hW0⟩
   ·by_cases h2 : 1320 < f k
    ·have H := Lib.hid (HR.out.symm.trans (sunErr_70 hlt (.inr h2)))
     have h1 : 900 ≤ f k := by omega
     go_wp2_with fail
     go_ret
     exact ⟨one H.out.symm, hW0⟩
    ·have h1 : 900 ≤ f k := by omega
     have h2 : f k ≤ 1320 := by omega
     go_wp2_with fail
     go_round
     case rel => exact ⟨k + 1, by omega, by go_num, fun i h => by
      by_cases c : i = k
      ·subst c; exact ⟨h1, h2⟩
      ·exact hin i (by omega), trivial⟩
     case measure => simp [intOf]; omega
  ·have e : k = 12 := by omega
   have hIn : SunIn f := by subst e; exact hin
   have e' : (k : Int) = 12 := by omega
   rw [e']
   clear hin hix e e' hlt hk
   go_wp2_with fail
   go_loopw [5, 6, 7, 19] (fun _ _ _ idx wr => ∃ k : Nat, k ≤ 12 ∧ idx = .int .i64 (k : Int) ∧ (∀ i, i < k → f ((i + 1) % 12) - f i ≤ 120 ∧ -120 ≤ f ((i + 1) % 12) - f i) ∧ BlockIs wr w.heap.size (sunArr f) 30 ∧ Below w.heap.size w wr) (fun _ _ _ i _ => (12 - intOf i).toNat)
   case atStart => exact ⟨0, by omega, rfl, fun i h => by omega, bS, hW0⟩
   case round =>
    obtain ⟨k, hk, rfl, hby, hS, hB⟩ := hrel
    by_cases hlt : k < 12
    ·have z0 : wr.cell? ⟨w.heap.size, 0, none⟩ = some (.int .i64 (f 0)) := hS.cell rfl
     have z1 : wr.cell? ⟨w.heap.size, 1, none⟩ = some (.int .i64 (f 1)) := hS.cell rfl
     have z2 : wr.cell? ⟨w.heap.size, 2, none⟩ = some (.int .i64 (f 2)) := hS.cell rfl
     have z3 : wr.cell? ⟨w.heap.size, 3, none⟩ = some (.int .i64 (f 3)) := hS.cell rfl
     have z4 : wr.cell? ⟨w.heap.size, 4, none⟩ = some (.int .i64 (f 4)) := hS.cell rfl
     have z5 : wr.cell? ⟨w.heap.size, 5, none⟩ = some (.int .i64 (f 5)) := hS.cell rfl
     have z6 : wr.cell? ⟨w.heap.size, 6, none⟩ = some (.int .i64 (f 6)) := hS.cell rfl
     have z7 : wr.cell? ⟨w.heap.size, 7, none⟩ = some (.int .i64 (f 7)) := hS.cell rfl
     have z8 : wr.cell? ⟨w.heap.size, 8, none⟩ = some (.int .i64 (f 8)) := hS.cell rfl
     have z9 : wr.cell? ⟨w.heap.size, 9, none⟩ = some (.int .i64 (f 9)) := hS.cell rfl
     have z10 : wr.cell? ⟨w.heap.size, 10, none⟩ = some (.int .i64 (f 10)) := hS.cell rfl
     have z11 : wr.cell? ⟨w.heap.size, 11, none⟩ = some (.int .i64 (f 11)) := hS.cell rfl
     go_wp2_with fail
     have hS1 := hS.alloc (.cells #[.int .i64 (k : Int), .int .i64 ((k : Int) + 1)] 3)
     have hB1 := hB.alloc hB.size (.cells #[.int .i64 (k : Int), .int .i64 ((k : Int) + 1)] 3)
     refine (smonths_at f _ _ k (k + 1) _ _ (BlockIs.new _ _ _) rfl (by omega) (by omega) (by omega)).mono ?_
     rintro e w2 ⟨g, cap, rfl, g0, g1, hg1, hg2, hb2⟩
     have hS2 := hS1.kept hb2
     have hB2 := hB1.trans (hb2.mono hB1.size)
     rw [Nat.mod_eq_of_lt hlt] at g0
     have i1 := hIn k hlt
     have i2 := hIn ((k + 1) % 12) (Nat.mod_lt _ (by omega))
     have E1 := Lib.hid (show ∀ i, i < k → f ((i + 1) % 12) - f i ≤ 120 ∧ -120 ≤ f ((i + 1) % 12) - f i from hby)
     clear z0 z1 z2 z3 z4 z5 z6 z7 z8 z9 z10 z11 hS hB hS1 hB1 hb2 bS hW0 hby
     by_cases h1 : 120 < f ((k + 1) % 12) - f k
     ·have H := Lib.hid (HR.out.symm.trans (sunErr_71 hlt hIn (.inl h1)))
      have hd1 : decide (120 < f ((k + 1) % 12) - f k) = true := by simpa using h1
      go_wp2_with fail
      go_quiet (fail)
      go_wp2_with fail
      go_ret
      exact ⟨one H.out.symm, below_drewN hB2 _⟩
     ·by_cases h2 : f ((k + 1) % 12) - f k < -120
      ·have H := Lib.hid (HR.out.symm.trans (sunErr_71 hlt hIn (.inr h2)))
       have hd1 : decide (120 < f ((k + 1) % 12) - f k) = false := by simpa using h1
       have hd2 : decide (f ((k + 1) % 12) - f k < -120) = true := by simpa using h2
       go_wp2_with fail
       go_quiet (fail)
       go_wp2_with fail
       go_ret
       exact ⟨one H.out.symm, below_drewN hB2 _⟩
      ·have hd1 : decide (120 < f ((k + 1) % 12) - f k) = false := by simpa using h1
       have hd2 : decide (f ((k + 1) % 12) - f k < -120) = false := by simpa using h2
       have H := Lib.hid (show ∀ i, i < k + 1 → f ((i + 1) % 12) - f i ≤ 120 ∧ -120 ≤ f ((i + 1) % 12) - f i from fun i h => by
        by_cases c : i = k
        ·subst c; exact ⟨by omega, by omega⟩
        ·exact E1.out i (by omega))
       go_wp2_with fail
       go_quiet (fail)
       go_wp2_with fail
       go_round
       case rel => exact ⟨k + 1, by omega, by go_num, H.out, hS2.drewN _, below_drewN hB2 _⟩
       case measure => simp [intOf]; omega
    ·have e : k = 12 := by omega
     subst e
     have H := Lib.hid (HR.out.symm.trans (sunErr_0 hIn hby))
     go_wp2_with fail
     go_ret
     exact ⟨one H.out.symm, hB⟩
theorem rscheck_any (f : Nat → Int) (r : Int) (w : World) (hr : sunErr f = r) (hf : ∀ i, i < 12 → I64 (f i)) :
  Calls Tryz.prog 14 #[.agg (sunArr f)] w fun e w' => e = .returned (.int .i64 r) ∧ Below w.heap.size w w' := by
 have HR := Lib.hid hr
 clear hr
 unfold sunArr
 go_enter Tryz.func14, Tryz.ntmps14
 go_wp2_with fail
 have hW0 : Below w.heap.size w (w.alloc (.cells (sunArr f) 30)) := (Below.refl _ _).alloc (Nat.le_refl _) _
 have bS := BlockIs.new w (sunArr f) 30
 unfold sunArr at hW0
 rw [show sunArr f = #[.int .i64 (f 0), .int .i64 (f 1), .int .i64 (f 2), .int .i64 (f 3), .int .i64 (f 4), .int .i64 (f 5), .int .i64 (f 6), .int .i64 (f 7), .int .i64 (f 8), .int .i64 (f 9), .int .i64 (f 10), .int .i64 (f 11)] from rfl] at bS
 generalize (w.alloc (.cells (#[.int .i64 (f 0), .int .i64 (f 1), .int .i64 (f 2), .int .i64 (f 3), .int .i64 (f 4), .int .i64 (f 5), .int .i64 (f 6), .int .i64 (f 7), .int .i64 (f 8), .int .i64 (f 9), .int .i64 (f 10), .int .i64 (f 11)]) 30)) = W0 at *
 have hsa := fun (i : Nat) (h : i < 12) => BlockIs.cell (cs := sunArr f) bS (sunArr_at f h)
 have HS := Lib.hid bS
 clear bS
 go_loopw [3] (fun idx wr => ∃ k : Nat, k ≤ 12 ∧ idx = .int .i64 (k : Int) ∧ (∀ i, i < k → 900 ≤ f i ∧ f i ≤ 1320) ∧ W0 = wr) (fun i _ => (12 - intOf i).toNat)
 case atStart => exact ⟨0, by omega, rfl, fun i h => by omega, rfl⟩
 case round =>
  obtain ⟨k, hk, rfl, hin, rfl⟩ := hrel
  by_cases hlt : k < 12
  ·have hc := hsa k hlt
   by_cases h1 : f k < 900
   ·have H := Lib.hid (HR.out.symm.trans (sunErr_70 hlt (.inl h1)))
    go_wp2_with fail
    go_ret
    exact ⟨one H.out.symm, hW0⟩
   ·by_cases h2 : 1320 < f k
    ·have H := Lib.hid (HR.out.symm.trans (sunErr_70 hlt (.inr h2)))
     have h1 : 900 ≤ f k := by omega
     go_wp2_with fail
     go_ret
     exact ⟨one H.out.symm, hW0⟩
    ·have h1 : 900 ≤ f k := by omega
     have h2 : f k ≤ 1320 := by omega
     go_wp2_with fail
     go_round
     case rel => exact ⟨k + 1, by omega, by go_num, fun i h => by
      by_cases c : i = k
      ·subst c; exact ⟨h1, h2⟩
      ·exact hin i (by omega), trivial⟩
     case measure => simp [intOf]; omega
  ·have e : k = 12 := by omega
   have hIn : SunIn f := by subst e; exact hin
   have e' : (k : Int) = 12 := by omega
   rw [e']
   clear hin e e' hlt hk
   go_wp2_with fail
   go_loopw [4, 5] (fun idx _ wr => ∃ k : Nat, k ≤ 12 ∧ idx = .int .i64 (k : Int) ∧ (∀ i, i < k → f ((i + 1) % 12) - f i ≤ 120 ∧ -120 ≤ f ((i + 1) % 12) - f i) ∧ (∀ i, i < 12 → wr.cell? ⟨w.heap.size, i, none⟩ = some (.int .i64 (f i))) ∧ Below w.heap.size w wr) (fun i _ _ => (12 - intOf i).toNat)
   case atStart => exact ⟨0, by omega, rfl, fun i h => by omega, hsa, hW0⟩
   case round =>
    obtain ⟨k, hk, rfl, hby, hS, hB⟩ := hrel
    by_cases hlt : k < 12
    ·have i1 := hIn k hlt
     have i2 := hIn ((k + 1) % 12) (Nat.mod_lt _ (by omega))
     have g0 := hS k hlt
     have g1 := hS ((k + 1) % 12) (Nat.mod_lt _ (by omega))
     have em : ((k : Int) + 1) % 12 = (((k + 1) % 12 : Nat) : Int) := by omega
     have hm1 : (0 : Int) ≤ (((k + 1) % 12 : Nat) : Int) := by omega
     have hm2 : (((k + 1) % 12 : Nat) : Int) < 12 := by omega
     have E1 := Lib.hid (show ∀ i, i < k → f ((i + 1) % 12) - f i ≤ 120 ∧ -120 ≤ f ((i + 1) % 12) - f i from hby)
     have HSS := Lib.hid (show ∀ i, i < 12 → wr.cell? ⟨w.heap.size, i, none⟩ = some (.int .i64 (f i)) from hS)
     clear hS hsa hby hW0
     generalize hq : (k + 1) % 12 = q at *
     by_cases h1 : 120 < f q - f k
     ·have H := Lib.hid (HR.out.symm.trans (sunErr_71 hlt hIn (.inl (by rw [hq]; exact h1))))
      have hd1 : decide (120 < f q - f k) = true := by simpa using h1
      go_wp2_with fail
      go_quiet (fail)
      go_wp2_with fail
      go_ret
      exact ⟨one H.out.symm, below_drewN hB _⟩
     ·by_cases h2 : f q - f k < -120
      ·have H := Lib.hid (HR.out.symm.trans (sunErr_71 hlt hIn (.inr (by rw [hq]; exact h2))))
       have hd1 : decide (120 < f q - f k) = false := by simpa using h1
       have hd2 : decide (f q - f k < -120) = true := by simpa using h2
       go_wp2_with fail
       go_quiet (fail)
       go_wp2_with fail
       go_ret
       exact ⟨one H.out.symm, below_drewN hB _⟩
      ·have hd1 : decide (120 < f q - f k) = false := by simpa using h1
       have hd2 : decide (f q - f k < -120) = false := by simpa using h2
       have H := Lib.hid (show ∀ i, i < k + 1 → f ((i + 1) % 12) - f i ≤ 120 ∧ -120 ≤ f ((i + 1) % 12) - f i from fun i h => by
        by_cases c : i = k
        ·subst c; rw [hq]; exact ⟨by omega, by omega⟩
        ·exact E1.out i (by omega))
       go_wp2_with fail
       go_quiet (fail)
       go_wp2_with fail
       go_round
       case rel => exact ⟨k + 1, by omega, by go_num, H.out, HSS.out, below_drewN hB _⟩
       case measure => simp [intOf]; omega
    ·have e : k = 12 := by omega
     subst e
     have H := Lib.hid (HR.out.symm.trans (sunErr_0 hIn hby))
     go_wp2_with fail
     go_ret
     exact ⟨one H.out.symm, hB⟩
def sunAt (f : Nat → Int) (n : Int) : Int := f (mOf n - 1).toNat + ((f ((mOf n).toNat % 12) - f (mOf n - 1).toNat) * (dOf n - 1)) / dim (yOf n) (mOf n)
theorem mul_bd {x y : Int} (h1 : -120 ≤ x) (h2 : x ≤ 120) (h3 : 0 ≤ y) (h4 : y ≤ 30) : -3600 ≤ x * y ∧ x * y ≤ 3600 := by
 have a := Int.mul_le_mul_of_nonneg_right h1 h3
 have b := Int.mul_le_mul_of_nonneg_right h2 h3
 omega
theorem sun_cells {W : World} {b : Nat} {f : Nat → Int} {t : TypeId} (h : BlockIs W b (sunArr f) t) : W.cell? ⟨b, 0, none⟩ = some (.int .i64 (f 0)) ∧ W.cell? ⟨b, 1, none⟩ = some (.int .i64 (f 1)) ∧ W.cell? ⟨b, 2, none⟩ = some (.int .i64 (f 2)) ∧ W.cell? ⟨b, 3, none⟩ = some (.int .i64 (f 3)) ∧ W.cell? ⟨b, 4, none⟩ = some (.int .i64 (f 4)) ∧ W.cell? ⟨b, 5, none⟩ = some (.int .i64 (f 5)) ∧
  W.cell? ⟨b, 6, none⟩ = some (.int .i64 (f 6)) ∧ W.cell? ⟨b, 7, none⟩ = some (.int .i64 (f 7)) ∧ W.cell? ⟨b, 8, none⟩ = some (.int .i64 (f 8)) ∧ W.cell? ⟨b, 9, none⟩ = some (.int .i64 (f 9)) ∧ W.cell? ⟨b, 10, none⟩ = some (.int .i64 (f 10)) ∧ W.cell? ⟨b, 11, none⟩ = some (.int .i64 (f 11)) :=
 ⟨h.cell rfl, h.cell rfl, h.cell rfl, h.cell rfl, h.cell rfl, h.cell rfl, h.cell rfl, h.cell rfl, h.cell rfl, h.cell rfl, h.cell rfl, h.cell rfl⟩
theorem sunArr_out (f : Nat → Int) : (#[.int .i64 (f 0), .int .i64 (f 1), .int .i64 (f 2), .int .i64 (f 3), .int .i64 (f 4), .int .i64 (f 5), .int .i64 (f 6), .int .i64 (f 7), .int .i64 (f 8), .int .i64 (f 9), .int .i64 (f 10), .int .i64 (f 11)] : Array Value) = sunArr f := rfl
theorem sat_err (f : Nat → Int) (n r : Int) (w : World) (hr : sunErr f = r) (h0 : r ≠ 0) (hf : ∀ i, i < 12 → I64 (f i)) :
  Calls Tryz.prog 335 #[.agg (sunArr f), .int .i64 n] w fun e w' => e = .returned (.tuple #[.int .i64 0, .int .i64 r]) ∧ Below w.heap.size w w' := by
 have hne : (r != 0) = true := by simpa using h0
 unfold sunArr
 go_enter Tryz.func335, Tryz.ntmps335
 go_wp2_with fail
 rw [sunArr_out]
 refine (scheck_any f r _ hr hf).mono ?_; rintro e w1 ⟨rfl, hb1⟩
 have hB := Lib.hid (((Below.refl w.heap.size w).alloc (Nat.le_refl _) (.cells (sunArr f) 30)).trans (hb1.mono (by simp)))
 clear hb1
 go_wp2
 go_ret2
 exact ⟨rfl, hB.out⟩
theorem sat_day (f : Nat → Int) (n : Int) (w : World) (hr : sunErr f = 0) (hn : n < 1 ∨ 3652059 < n) (hf : ∀ i, i < 12 → I64 (f i)) :
  Calls Tryz.prog 335 #[.agg (sunArr f), .int .i64 n] w fun e w' => e = .returned (.tuple #[.int .i64 0, .int .i64 72]) ∧ Below w.heap.size w w' := by
 unfold sunArr
 go_enter Tryz.func335, Tryz.ntmps335
 go_wp2_with fail
 rw [sunArr_out]
 refine (scheck_any f 0 _ hr hf).mono ?_; rintro e w1 ⟨rfl, hb1⟩
 have hB := (((Below.refl w.heap.size w).alloc (Nat.le_refl _) (.cells (sunArr f) 30)).trans (hb1.mono (by simp)))
 clear hb1
 go_wp2_with fail
 refine (gof_no _ _ hn).mono ?_; rintro e w2 ⟨rfl, hb2⟩
 have hB2 := hB.trans (hb2.mono hB.size)
 have hB3 := Lib.hid (hB2.alloc hB2.size (.cells #[.int .i64 0, .int .i64 0, .int .i64 0] 323))
 clear hb2 hB hB2
 go_wp2
 go_ret2
 exact ⟨rfl, hB3.out⟩
theorem sat_ok (f : Nat → Int) (n : Int) (w : World) (ht : Tab w) (hr : sunErr f = 0) (hi : SunIn f) (hy : SunBy f) (h1 : 1 ≤ n) (h2 : n ≤ 3652059) (hf : ∀ i, i < 12 → I64 (f i)) :
  Calls Tryz.prog 335 #[.agg (sunArr f), .int .i64 n] w fun e w' => e = .returned (.tuple #[.int .i64 (sunAt f n), .int .i64 0]) ∧ Below w.heap.size w w' := by
 obtain ⟨my, mn⟩ := of_may h1 h2
 obtain ⟨y1, y2, m1, m2, _⟩ := may_in my
 have dm := dim_ok (okM_of my)
 have db := dim_bd (yOf n) (mOf n)
 obtain ⟨d1, d2⟩ := my
 have hA : sunAt f n = f (mOf n - 1).toNat + ((f ((mOf n).toNat % 12) - f (mOf n - 1).toNat) * (dOf n - 1)) / dim (yOf n) (mOf n) := rfl
 have ht1 := ht.alloc (.cells (sunArr f) 30)
 unfold sunArr
 go_enter Tryz.func335, Tryz.ntmps335
 go_wp2_with fail
 rw [sunArr_out]
 refine (scheck_any f 0 _ hr hf).mono ?_; rintro e w1 ⟨rfl, hb1⟩
 have hB := (((Below.refl w.heap.size w).alloc (Nat.le_refl _) (.cells (sunArr f) 30)).trans (hb1.mono (by simp)))
 have ht2 := ht1.below hb1
 have bS := (BlockIs.new w (sunArr f) 30).kept hb1
 clear hb1
 go_wp2_with fail
 refine (gof_ok _ _ ht2 h1 h2).mono ?_; rintro e w2 ⟨rfl, hb2⟩
 have hB2 := hB.trans (hb2.mono hB.size)
 have ht3 := (ht2.below hb2).alloc (.cells #[.int .i64 (yOf n), .int .i64 (mOf n), .int .i64 (dOf n)] 323)
 have bS2 := (bS.kept hb2).alloc (.cells #[.int .i64 (yOf n), .int .i64 (mOf n), .int .i64 (dOf n)] 323)
 have bD2 := BlockIs.new w2 #[.int .i64 (yOf n), .int .i64 (mOf n), .int .i64 (dOf n)] 323
 have hB3 := hB2.alloc hB2.size (.cells #[.int .i64 (yOf n), .int .i64 (mOf n), .int .i64 (dOf n)] 323)
 clear hb2 hB hB2 bS ht1 ht2
 obtain ⟨z0, z1, z2, z3, z4, z5, z6, z7, z8, z9, z10, z11⟩ := sun_cells bS2
 go_wp2_with fail
 rw [sunArr_out]
 generalize yOf n = Y at *
 generalize mOf n = M at *
 generalize dOf n = D at *
 have em : M - 1 = ((M - 1).toNat : Int) := by omega
 have em2 : M = (M.toNat : Int) := by omega
 have bL := BlockIs.new (w2.alloc (.cells #[.int .i64 Y, .int .i64 M, .int .i64 D] 323)) #[.int .i64 (M - 1), .int .i64 M] 3
 have hzl : (w2.alloc (.cells #[.int .i64 Y, .int .i64 M, .int .i64 D] 323)).heap.size = w2.heap.size + 1 := by simp
 rw [hzl] at bL
 have hB4 := hB3.alloc hB3.size (.cells #[.int .i64 (M - 1), .int .i64 M] 3)
 have bD4 := bD2.alloc (.cells #[.int .i64 (M - 1), .int .i64 M] 3)
 have ht4 := ht3.alloc (.cells #[.int .i64 (M - 1), .int .i64 M] 3)
 refine (smonths_at f _ _ (M - 1).toNat M.toNat _ _ bL em em2 (by omega) (by omega)).mono ?_
 rintro e w3 ⟨g, cap, rfl, g0, g1, hg1, hg2, hb3⟩
 rw [Nat.mod_eq_of_lt (by omega)] at g0
 have i1 := hi (M - 1).toNat (by omega)
 have i2 := hi (M.toNat % 12) (Nat.mod_lt _ (by omega))
 have i3 := hy (M - 1).toNat (by omega)
 rw [show (M - 1).toNat + 1 = M.toNat by omega] at i3
 have bD5 := bD4.kept hb3
 have ht5 := ht4.below hb3
 have HB := Lib.hid (hB4.trans (hb3.mono hB4.size))
 have c0 : w3.cell? ⟨w2.heap.size, 0, none⟩ = some (.int .i64 Y) := bD5.cell rfl
 have c1 : w3.cell? ⟨w2.heap.size, 1, none⟩ = some (.int .i64 M) := bD5.cell rfl
 have c2 : w3.cell? ⟨w2.heap.size, 2, none⟩ = some (.int .i64 D) := bD5.cell rfl
 have HA := Lib.hid hA
 clear z0 z1 z2 z3 z4 z5 z6 z7 z8 z9 z10 z11 bS2 bD2 bD4 bD5 bL hB3 hB4 hb3 ht3 ht4 hzl hg1 hg2 hA em em2
 generalize f (M - 1).toNat = A at *
 generalize f (M.toNat % 12) = B at *
 have mb := mul_bd (x := B - A) (y := D - 1) i3.2 i3.1 (by omega) (by omega)
 have qb : -3600 ≤ (B - A) * (D - 1) / dim Y M ∧ (B - A) * (D - 1) / dim Y M ≤ 3600 := by
  constructor
  ·exact Int.le_ediv_of_mul_le (by omega) (by omega)
  ·exact Int.ediv_le_of_le_mul (by omega) (by omega)
 go_wp2_with fail
 go_quiet ((first
  | (go_at_call 252; exact quiet_left (gdays_any _ _ _ (Tab.drewN ht5 _)))
  | (go_at_call 196; exact quiet_left (div_ok _ _ _ (by omega) (by unfold I64; omega)))))
 go_wp2_with fail
 go_ret2
 exact ⟨two HA.out.symm rfl, below_drewN HB.out _⟩
end Go.Proofs.YtfnifgppblbjhaaGreatDoor
namespace Go.Proofs.YtfnifgppblbjhaaGreatDoor
set_option maxHeartbeats 8000000
open Go.RowKit
structure Zn where
 b : Int
 s : Int
 m : Int
 k : Int
 d : Int
 t : Int
 m' : Int
 k' : Int
 d' : Int
 t' : Int
def Zn.arr (z : Zn) : Array Value := #[.int .i64 z.b, .int .i64 z.s, .int .i64 z.m, .int .i64 z.k, .int .i64 z.d, .int .i64 z.t, .int .i64 z.m', .int .i64 z.k', .int .i64 z.d', .int .i64 z.t']
def tOk (m k d t : Int) : Bool := decide (1 ≤ m) && decide (m ≤ 12) && decide (1 ≤ k) && decide (k ≤ 5) && decide (0 ≤ d) && decide (d ≤ 6) && decide (0 ≤ t) && decide (t ≤ 1439)
def zeroT (m k d t : Int) : Bool := (m == 0) && (k == 0) && (d == 0) && (t == 0)
theorem tOk_iff {m k d t : Int} : tOk m k d t = true ↔ 1 ≤ m ∧ m ≤ 12 ∧ 1 ≤ k ∧ k ≤ 5 ∧ 0 ≤ d ∧ d ≤ 6 ∧ 0 ≤ t ∧ t ≤ 1439 := by
 unfold tOk; simp only [Bool.and_eq_true, decide_eq_true_eq, and_assoc]
def gapM (z : Zn) : Int := if z.m < z.m' then z.m' - z.m else z.m - z.m'
def zErr (z : Zn) : Int :=
 if z.b < -720 ∨ 840 < z.b then 60
 else if z.s < 0 ∨ 120 < z.s then 61
 else if z.s = 0 then (if zeroT z.m z.k z.d z.t = true ∧ zeroT z.m' z.k' z.d' z.t' = true then 0 else 62)
 else if tOk z.m z.k z.d z.t = true ∧ tOk z.m' z.k' z.d' z.t' = true ∧ 2 ≤ gapM z ∧ gapM z ≤ 10 then 0 else 62
end Go.Proofs.YtfnifgppblbjhaaGreatDoor
namespace Go.Proofs.YtfnifgppblbjhaaGreatDoor
set_option maxHeartbeats 8000000
open Go.RowKit
set_option linter.unusedVariables false
set_option linter.unusedSimpArgs false
theorem boolE {a b : Bool} (h : a = b) : Ending.returned (.bool a) = Ending.returned (.bool b) := by rw [h]
theorem zwithin_any (n a b : Int) (w : World) : Calls Tryz.prog 127 #[.int .i64 n, .int .i64 a, .int .i64 b] w fun e w' => e = .returned (.bool (decide (a ≤ n) && decide (n ≤ b))) ∧ w = w' := by
 go_enter Tryz.func127, Tryz.ntmps127
 go_wp2
 all_goals
  go_ret
  refine ⟨boolE ?_, rfl⟩
  simp [*] <;> omega
theorem todd_any (m k d t : Int) (w : World) : Calls Tryz.prog 126 #[.agg #[.int .i64 m, .int .i64 k, .int .i64 d, .int .i64 t]] w fun e w' => e = .returned (.bool (!tOk m k d t)) ∧ Below w.heap.size w w' := by
 have hB := (Below.refl w.heap.size w).alloc (Nat.le_refl _) (.cells #[.int .i64 m, .int .i64 k, .int .i64 d, .int .i64 t] 26)
 have HB := Lib.hid hB
 clear hB
 go_enter Tryz.func126, Tryz.ntmps126
 go_wp2_with (go_at_call 127; refine (zwithin_any _ _ _ _).mono ?_; rintro e w' ⟨rfl, rfl⟩)
 all_goals
  go_ret
  refine ⟨boolE ?_, HB.out⟩
  unfold tOk
  simp_all <;> omega
theorem tindex_ok (m k d t m' k' d' t' q : Int) (g : Nat) (w : World) (hq : (if tOk m k d t = false then 0 else if tOk m' k' d' t' = false then 1 else -1) = q) (hb : BlockIs w g #[.int .i64 m, .int .i64 k, .int .i64 d, .int .i64 t, .int .i64 m', .int .i64 k', .int .i64 d', .int .i64 t'] 26) :
  Calls Tryz.prog 189 #[.slice (some ⟨g, 0, none⟩) 2 2, .func (.func 126) #[] #[]] w fun e w' => e = .returned (.int .i64 q) ∧ Below w.heap.size w w' := by
 have HQ := Lib.hid hq
 clear hq
 go_enter Tryz.func189, Tryz.ntmps189
 go_wp2_with fail
 have c0 : w.cell? ⟨g, 0, none⟩ = some (.int .i64 m) := hb.cell rfl
 have c1 : w.cell? ⟨g, 1, none⟩ = some (.int .i64 k) := hb.cell rfl
 have c2 : w.cell? ⟨g, 2, none⟩ = some (.int .i64 d) := hb.cell rfl
 have c3 : w.cell? ⟨g, 3, none⟩ = some (.int .i64 t) := hb.cell rfl
 go_loopw [5, 8] (fun _ idx wr => (idx = .int .i64 0 ∧ w = wr) ∨ (∃ j : Int, idx = .int .i64 j ∧ (j = 1 ∨ j = 2) ∧ tOk m k d t = true ∧ (j = 2 → tOk m' k' d' t' = true) ∧ BlockIs wr g #[.int .i64 m, .int .i64 k, .int .i64 d, .int .i64 t, .int .i64 m', .int .i64 k', .int .i64 d', .int .i64 t'] 26 ∧ Below w.heap.size w wr)) (fun _ i _ => (2 - intOf i).toNat)
 case atStart => exact .inl ⟨rfl, rfl⟩
 case round =>
  rcases hrel with ⟨rfl, rfl⟩ | ⟨j, rfl, hj, ha, hbb, hbk, hB⟩
  ·rcases (Bool.eq_false_or_eq_true (tOk m k d t)).symm with ha | ha
   ·have HA := Lib.hid ha
    clear ha
    go_wp2_with fail
    refine (todd_any _ _ _ _ _).mono ?_; rintro e w1 ⟨rfl, hb1⟩
    rw [HA.out]
    go_wp2_with fail
    go_ret
    exact ⟨one (by rw [← HQ.out, if_pos HA.out]), hb1⟩
   ·have HA := Lib.hid ha
    clear ha
    go_wp2_with fail
    refine (todd_any _ _ _ _ _).mono ?_; rintro e w1 ⟨rfl, hb1⟩
    rw [HA.out]
    have hbk := hb.kept hb1
    go_wp2_with fail
    go_round
    case rel => exact .inr ⟨1, rfl, .inl rfl, HA.out, fun h => by omega, hbk, hb1⟩
    case measure => simp [intOf]
  ·have e0 : wr.cell? ⟨g, 4, none⟩ = some (.int .i64 m') := hbk.cell rfl
   have e1 : wr.cell? ⟨g, 5, none⟩ = some (.int .i64 k') := hbk.cell rfl
   have e2 : wr.cell? ⟨g, 6, none⟩ = some (.int .i64 d') := hbk.cell rfl
   have e3 : wr.cell? ⟨g, 7, none⟩ = some (.int .i64 t') := hbk.cell rfl
   have HA := Lib.hid ha
   clear ha
   rcases hj with rfl | rfl
   ·rcases (Bool.eq_false_or_eq_true (tOk m' k' d' t')).symm with hb' | hb'
    ·have HB := Lib.hid hb'
     clear hb' hbb
     go_wp2_with fail
     refine (todd_any _ _ _ _ _).mono ?_; rintro e w1 ⟨rfl, hb1⟩
     rw [HB.out]
     have hB1 := hB.trans (hb1.mono hB.size)
     go_wp2_with fail
     go_ret
     exact ⟨one (by rw [← HQ.out, if_neg (by rw [HA.out]; decide), if_pos HB.out]), hB1⟩
    ·have HB := Lib.hid hb'
     clear hb' hbb
     go_wp2_with fail
     refine (todd_any _ _ _ _ _).mono ?_; rintro e w1 ⟨rfl, hb1⟩
     rw [HB.out]
     have hB1 := hB.trans (hb1.mono hB.size)
     have hbk1 := hbk.kept hb1
     go_wp2_with fail
     go_round
     case rel => exact .inr ⟨2, rfl, .inr rfl, HA.out, fun _ => HB.out, hbk1, hB1⟩
     case measure => simp [intOf]
   ·have HB := Lib.hid (hbb rfl)
    clear hbb
    go_wp2_with fail
    go_ret
    exact ⟨one (by rw [← HQ.out, if_neg (by rw [HA.out]; decide), if_neg (by rw [HB.out]; decide)]), hB⟩
theorem tcontains_ok (m k d t m' k' d' t' : Int) (g : Nat) (w : World) (hb : BlockIs w g #[.int .i64 m, .int .i64 k, .int .i64 d, .int .i64 t, .int .i64 m', .int .i64 k', .int .i64 d', .int .i64 t'] 26) :
  Calls Tryz.prog 128 #[.slice (some ⟨g, 0, none⟩) 2 2, .func (.func 126) #[] #[]] w fun e w' => e = .returned (.bool (!(tOk m k d t && tOk m' k' d' t'))) ∧ Below w.heap.size w w' := by
 have hq : ∃ q : Int, (if tOk m k d t = false then 0 else if tOk m' k' d' t' = false then 1 else -1) = q ∧ decide (0 ≤ q) = !(tOk m k d t && tOk m' k' d' t') := by
  refine ⟨_, rfl, ?_⟩
  cases tOk m k d t <;> cases tOk m' k' d' t' <;> rfl
 obtain ⟨q, hq1, hq2⟩ := hq
 have H1 := Lib.hid hq1
 have H2 := Lib.hid hq2
 clear hq1 hq2
 go_enter Tryz.func128, Tryz.ntmps128
 go_wp2_with fail
 refine (tindex_ok _ _ _ _ _ _ _ _ q _ _ H1.out hb).mono ?_; rintro e w1 ⟨rfl, hb1⟩
 go_wp2_with fail
 go_ret
 exact ⟨boolE H2.out, hb1⟩
end Go.Proofs.YtfnifgppblbjhaaGreatDoor
