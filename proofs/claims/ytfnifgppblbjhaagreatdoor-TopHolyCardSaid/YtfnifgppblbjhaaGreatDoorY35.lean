/- Part of the proof of TopHoly. -/
import Derived.Test.YtfnifgppblbjhaaGreatDoorY01
import Derived.Test.YtfnifgppblbjhaaGreatDoorY17
import Derived.Test.YtfnifgppblbjhaaGreatDoorY18
import Derived.Test.YtfnifgppblbjhaaGreatDoorY19
import Derived.Test.YtfnifgppblbjhaaGreatDoorY34
namespace Go.Proofs.YtfnifgppblbjhaaGreatDoor
set_option maxHeartbeats 8000000
open Go Go.RowKit
set_option linter.unusedVariables false
set_option linter.unusedSimpArgs false
theorem sidx_odd (l : List Sp) (v : Value) (w : World) (hv : SpRow w v l) (hl : ∀ s ∈ l, s.a < s.b) (hn : l.length ≤ 500) : Calls Tryz.prog 202 #[v, .func (.func 237) #[] #[]] w fun e w' => e = .returned (.int .i64 (-1)) ∧ Below w.heap.size w w' := by
 obtain ⟨p, cap, rfl, hrow⟩ := hv
 have HV := Lib.hid (show SpRow w (.slice p l.length cap) l from ⟨p, cap, rfl, hrow⟩)
 have HL := Lib.hid hl
 obtain ⟨n, hN⟩ : ∃ n, l.length = n := ⟨_, rfl⟩
 rw [hN] at hn ⊢
 have HN := Lib.hid hN
 clear hrow hl hN
 go_enter Tryz.func202, Tryz.ntmps202
 go_wp2_with fail
 go_loopw [8] (fun iv wr => ∃ k : Nat, k ≤ n ∧ iv = .int .i64 (k : Int) ∧ Below w.heap.size w wr) (fun iv _ => (n - intOf iv).toNat)
 case atStart => exact ⟨0, by omega, rfl, Below.refl _ _⟩
 case round =>
  obtain ⟨k, hk, rfl, hB⟩ := hrel
  by_cases hlt : k < n
  ·have hd : decide (k < n) = true := by simpa using hlt
   have hi1 : (k : Int) < (n : Int) := by omega
   have hkl : k < l.length := by rw [HN.out]; exact hlt
   obtain ⟨b, cap', e, c0, c1, c2, c3⟩ := (HV.out.below hB).at hkl
   cases e
   have HB := Lib.hid hB
   have hs := Lib.hid (HL.out l[k] (List.getElem_mem hkl))
   clear hB
   go_wp2_with fail
   refine (sodd_ok l[k] _ hs.out).mono ?_; rintro e w1 ⟨rfl, hb1⟩
   have HB1 := Lib.hid (HB.out.trans (hb1.mono HB.out.size))
   clear hb1 c0 c1 c2 c3
   go_wp2_with fail
   go_round
   case rel => exact ⟨k + 1, by omega, by go_num, HB1.out⟩
   case measure => simp [intOf]; omega
  ·have e : k = n := by omega
   subst e
   have hd : decide (k < k) = false := by simp
   go_wp2_with fail
   go_ret
   exact ⟨rfl, hB⟩
theorem scont_odd (l : List Sp) (v : Value) (w : World) (hv : SpRow w v l) (hl : ∀ s ∈ l, s.a < s.b) (hn : l.length ≤ 500) : Calls Tryz.prog 238 #[v, .func (.func 237) #[] #[]] w fun e w' => e = .returned (.bool false) ∧ Below w.heap.size w w' := by
 have HX := Lib.hid (show ∀ W, Below w.heap.size w W → Calls Tryz.prog 202 #[v, .func (.func 237) #[] #[]] W fun e w' => e = .returned (.int .i64 (-1)) ∧ Below W.heap.size W w' from fun W hW => sidx_odd l v W (hv.below hW) hl hn)
 clear hv hl
 go_enter Tryz.func238, Tryz.ntmps238
 go_wp2_with fail
 refine (HX.out _ (Below.refl _ _)).mono ?_; rintro e w1 ⟨rfl, hb1⟩
 have HB1 := Lib.hid hb1
 clear hb1 HX
 go_wp2_with fail
 go_ret
 exact ⟨rfl, HB1.out⟩
def AtP (l : List Sp) (t : Int) (i : Int) : Prop := (i = -1 ∧ cov l t = false) ∨ ∃ k : Nat, ∃ h : k < l.length, i = (k : Int) ∧ inS l[k] t = true
theorem sidx_at (l : List Sp) (t : Int) (bt : Nat) (v : Value) (w : World) (hv : SpRow w v l) (ht : BlockIs w bt #[.int .i64 t] 3) (hn : l.length ≤ 500) : Calls Tryz.prog 202 #[v, .func (.func 203) #[] #[.pointer (some ⟨bt, 0, none⟩)]] w fun e w' => (∃ i, e = .returned (.int .i64 i) ∧ AtP l t i) ∧ Below w.heap.size w w' := by
 obtain ⟨p, cap, rfl, hrow⟩ := hv
 have HV := Lib.hid (show SpRow w (.slice p l.length cap) l from ⟨p, cap, rfl, hrow⟩)
 have HT := Lib.hid ht
 obtain ⟨n, hN⟩ : ∃ n, l.length = n := ⟨_, rfl⟩
 rw [hN] at hn ⊢
 have HN := Lib.hid hN
 clear hrow ht hN
 go_enter Tryz.func202, Tryz.ntmps202
 go_wp2_with fail
 go_loopw [8] (fun iv wr => ∃ k : Nat, k ≤ n ∧ iv = .int .i64 (k : Int) ∧ Below w.heap.size w wr ∧ Hid (∀ j (h : j < l.length), j < k → inS l[j] t = false)) (fun iv _ => (n - intOf iv).toNat)
 case atStart => exact ⟨0, by omega, rfl, Below.refl _ _, Lib.hid (fun j _ h => by omega)⟩
 case round =>
  obtain ⟨k, hk, rfl, hB, hno⟩ := hrel
  by_cases hlt : k < n
  ·have hd : decide (k < n) = true := by simpa using hlt
   have hi1 : (k : Int) < (n : Int) := by omega
   have hkl : k < l.length := by rw [HN.out]; exact hlt
   obtain ⟨b, cap', e, c0, c1, c2, c3⟩ := (HV.out.below hB).at hkl
   cases e
   have HB := Lib.hid hB
   have hct : wr.cell? ⟨bt, 0, none⟩ = some (.int .i64 t) := (HT.out.kept hB).cell rfl
   have HCT := Lib.hid hct
   have HK := Lib.hid hkl
   obtain ⟨s, hs⟩ : ∃ s, l[k] = s := ⟨_, rfl⟩
   replace c0 : wr.cell? ⟨b, k * 4, none⟩ = some (.int .i64 s.a) := by rw [← hs]; exact c0
   replace c1 : wr.cell? ⟨b, k * 4 + 1, none⟩ = some (.int .i64 s.b) := by rw [← hs]; exact c1
   replace c2 : wr.cell? ⟨b, k * 4 + 2, none⟩ = some (.int .i64 s.m) := by rw [← hs]; exact c2
   replace c3 : wr.cell? ⟨b, k * 4 + 3, none⟩ = some (.int .i64 s.p) := by rw [← hs]; exact c3
   have HS := Lib.hid hs
   clear hB hct hs hkl
   obtain ⟨r, hr⟩ : ∃ r, inS s t = r := ⟨_, rfl⟩
   have HR := Lib.hid hr
   clear hr
   go_wp2_with fail
   refine (sat1_ok s t bt _ HCT.out).mono ?_; rintro e w1 ⟨rfl, hb1⟩
   rw [HR.out]
   have HB1 := Lib.hid (HB.out.trans (hb1.mono HB.out.size))
   clear hb1 c0 c1 c2 c3
   cases r with
   | true =>
    go_wp2_with fail
    go_ret
    exact ⟨⟨_, rfl, .inr ⟨k, HK.out, rfl, by have h := HR.out; rw [← HS.out] at h; exact h⟩⟩, HB1.out⟩
   | false =>
    go_wp2_with fail
    go_round
    case rel =>
     refine ⟨k + 1, by omega, by go_num, HB1.out, Lib.hid (fun j h hj => ?_)⟩
     by_cases e : j = k
     ·subst e; have h := HR.out; rw [← HS.out] at h; exact h
     ·exact hno.out j h (by omega)
    case measure => simp [intOf]; omega
  ·have e : k = n := by omega
   subst e
   have hd : decide (k < k) = false := by simp
   have HB := Lib.hid hB
   clear hB
   go_wp2_with fail
   go_ret
   refine ⟨⟨_, rfl, .inl ⟨rfl, cov_not.2 (fun s hs => ?_)⟩⟩, HB.out⟩
   obtain ⟨j, hj, e⟩ := List.getElem_of_mem hs
   have := hno.out j hj (by rw [← HN.out]; exact hj)
   rw [e] at this
   intro hc
   rw [inS_iff.2 hc] at this
   cases this
theorem sAt_ok (l : List Sp) (t : Int) (v : Value) (w : World) (hv : SpRow w v l) (hn : l.length ≤ 500) : Calls Tryz.prog 147 #[v, .int .i64 t] w fun e w' => (∃ s, e = .returned (.tuple #[.agg (spA s), .bool (cov l t)]) ∧ (cov l t = true → s ∈ l)) ∧ Below w.heap.size w w' := by
 have hI := (BlockIs.new w #[.int .i64 t] 3).alloc (.cells #[.int .i64 0, .int .i64 0, .int .i64 0, .int .i64 0] 264)
 have hR := BlockIs.new (w.alloc (.cells #[.int .i64 t] 3)) #[.int .i64 0, .int .i64 0, .int .i64 0, .int .i64 0] 264
 simp only [World.size_alloc] at hR
 have HB := (((Below.refl w.heap.size w).alloc (by exact Nat.le_refl _) (.cells #[.int .i64 t] 3)).alloc (by simp only [World.size_alloc]; omega) (.cells #[.int .i64 0, .int .i64 0, .int .i64 0, .int .i64 0] 264))
 have HV := Lib.hid (hv.below HB)
 have HX := Lib.hid (sidx_at l t w.heap.size v _ (hv.below HB) hI hn)
 obtain ⟨p, cap, rfl, hrow⟩ := hv
 have HI := Lib.hid hI
 have HR := Lib.hid hR
 clear hI hR hrow
 go_enter Tryz.func147, Tryz.ntmps147
 go_wp2_with fail
 refine (HX.out).mono ?_; rintro e w1 ⟨⟨i, rfl, hi⟩, hb1⟩
 have HR1 := Lib.hid (HR.out.kept hb1)
 have HB1 := Lib.hid (HB.trans (hb1.mono HB.size))
 have HV1 := Lib.hid (HV.out.below hb1)
 clear hb1 HB HX HR HV
 have y0 := HR1.out.cell (i := 0) (v := .int .i64 0) rfl
 have y1 := HR1.out.cell (i := 1) (v := .int .i64 0) rfl
 have y2 := HR1.out.cell (i := 2) (v := .int .i64 0) rfl
 have y3 := HR1.out.cell (i := 3) (v := .int .i64 0) rfl
 have z0 := HR1.out.free 0
 have z1 := HR1.out.free 1
 have z2 := HR1.out.free 2
 have z3 := HR1.out.free 3
 rcases hi with ⟨rfl, hc⟩ | ⟨k, hk, rfl, hc⟩
 ·go_wp2_with fail
  have hF := (((HR1.out.set 0 (.int .i64 0)).set 1 (.int .i64 0)).set 2 (.int .i64 0)).set 3 (.int .i64 0)
  have e0 := hF.cell (i := 0) (v := .int .i64 0) rfl
  have e1 := hF.cell (i := 1) (v := .int .i64 0) rfl
  have e2 := hF.cell (i := 2) (v := .int .i64 0) rfl
  have e3 := hF.cell (i := 3) (v := .int .i64 0) rfl
  exact bodyPost_ret (v := .tuple #[.agg #[.int .i64 0, .int .i64 0, .int .i64 0, .int .i64 0], .bool false]) (by simp [results, Tryz.results147, go_sem, e0, e1, e2, e3]) rfl ⟨⟨⟨0, 0, 0, 0⟩, by rw [hc]; rfl, by rw [hc]; intro h; cases h⟩, (((HB1.out.setCell (p := ⟨w.heap.size + 1, 0, none⟩) (by show w.heap.size ≤ w.heap.size + 1; omega) _).setCell (p := ⟨w.heap.size + 1, 1, none⟩) (by show w.heap.size ≤ w.heap.size + 1; omega) _).setCell (p := ⟨w.heap.size + 1, 2, none⟩) (by show w.heap.size ≤ w.heap.size + 1; omega) _).setCell (p := ⟨w.heap.size + 1, 3, none⟩) (by show w.heap.size ≤ w.heap.size + 1; omega) _⟩
 ·obtain ⟨b, cap', e, c0, c1, c2, c3⟩ := HV1.out.at hk
  cases e
  have hcv := Lib.hid (show cov l t = true from cov_iff.2 ⟨_, List.getElem_mem hk, inS_iff.1 hc⟩)
  have hin := Lib.hid (List.getElem_mem hk)
  generalize l[k]'hk = s at *
  have hi1 : (k : Int) < (l.length : Int) := by omega
  clear hc
  go_wp2_with fail
  have hF := (((HR1.out.set 0 (.int .i64 s.a)).set 1 (.int .i64 s.b)).set 2 (.int .i64 s.m)).set 3 (.int .i64 s.p)
  have e0 := hF.cell (i := 0) (v := .int .i64 s.a) rfl
  have e1 := hF.cell (i := 1) (v := .int .i64 s.b) rfl
  have e2 := hF.cell (i := 2) (v := .int .i64 s.m) rfl
  have e3 := hF.cell (i := 3) (v := .int .i64 s.p) rfl
  exact bodyPost_ret (v := .tuple #[.agg #[.int .i64 s.a, .int .i64 s.b, .int .i64 s.m, .int .i64 s.p], .bool true]) (by simp [results, Tryz.results147, go_sem, e0, e1, e2, e3]) rfl ⟨⟨s, by rw [hcv.out]; rfl, fun _ => hin.out⟩, (((HB1.out.setCell (p := ⟨w.heap.size + 1, 0, none⟩) (by show w.heap.size ≤ w.heap.size + 1; omega) _).setCell (p := ⟨w.heap.size + 1, 1, none⟩) (by show w.heap.size ≤ w.heap.size + 1; omega) _).setCell (p := ⟨w.heap.size + 1, 2, none⟩) (by show w.heap.size ≤ w.heap.size + 1; omega) _).setCell (p := ⟨w.heap.size + 1, 3, none⟩) (by show w.heap.size ≤ w.heap.size + 1; omega) _⟩
def lessV (s u : Sp) : Bool := decide (s.p < u.p) || (decide (s.p = u.p) && decide (s.a < u.a))
theorem sless_ok (s u : Sp) (w : World) : Calls Tryz.prog 259 #[.agg (spA s), .agg (spA u)] w fun e w' => e = .returned (.bool (lessV s u)) ∧ Below w.heap.size w w' := by
 have hS := (BlockIs.new w (spA s) 264).alloc (.cells (spA u) 264)
 have hU := BlockIs.new (w.alloc (.cells (spA s) 264)) (spA u) 264
 simp only [World.size_alloc] at hU
 have HB := (((Below.refl w.heap.size w).alloc (by exact Nat.le_refl _) (.cells (spA s) 264)).alloc (by simp only [World.size_alloc]; omega) (.cells (spA u) 264))
 have c0 := hS.cell (i := 0) (v := .int .i64 s.a) rfl
 have c3 := hS.cell (i := 3) (v := .int .i64 s.p) rfl
 have d0 := hU.cell (i := 0) (v := .int .i64 u.a) rfl
 have d3 := hU.cell (i := 3) (v := .int .i64 u.p) rfl
 clear hS hU
 by_cases h1 : s.p < u.p
 ·have t1 : decide (s.p < u.p) = true := by simpa using h1
  go_enter Tryz.func259, Tryz.ntmps259
  go_wp2_with fail
  go_ret
  exact ⟨by simp [lessV, h1], HB⟩
 ·have t1 : decide (s.p < u.p) = false := by simpa using h1
  by_cases h2 : s.p = u.p
  ·have t2 : (s.p == u.p) = true := by simpa using h2
   have H2 := Lib.hid h2
   clear h2
   go_enter Tryz.func259, Tryz.ntmps259
   go_wp2_with fail
   go_ret
   exact ⟨by simp [lessV, H2.out], HB⟩
  ·have t2 : (s.p == u.p) = false := by simpa using h2
   go_enter Tryz.func259, Tryz.ntmps259
   go_wp2_with fail
   go_ret
   exact ⟨by simp [lessV, h2]; omega, HB⟩
def WeI (l : List Sp) (t : Int) (k : Nat) (i : Int) : Prop := (i = -1 ∧ ∀ j (h : j < l.length), j < k → inS l[j] t = false) ∨ ∃ kb : Nat, ∃ h : kb < l.length, i = (kb : Int) ∧ inS l[kb] t = true
theorem WeI.all {l : List Sp} {t i : Int} (h : WeI l t l.length i) : AtP l t i := by
 rcases h with ⟨rfl, h⟩ | h
 ·refine .inl ⟨rfl, cov_not.2 (fun s hs => ?_)⟩
  obtain ⟨j, hj, e⟩ := List.getElem_of_mem hs
  have := h j hj hj
  rw [e] at this
  intro hc
  rw [inS_iff.2 hc] at this
  cases this
 ·exact .inr h
theorem WeI.no {l : List Sp} {t i : Int} {k : Nat} (h : WeI l t k i) (hk : k < l.length) (hc : inS l[k] t = false) : WeI l t (k + 1) i := by
 rcases h with ⟨rfl, h⟩ | h
 ·refine .inl ⟨rfl, fun j hj hlt => ?_⟩
  by_cases e : j = k
  ·subst e; exact hc
  ·exact h j hj (by omega)
 ·exact .inr h
set_option maxRecDepth 100000 in
theorem sweight_ok (l : List Sp) (t : Int) (v : Value) (w : World) (hv : SpRow w v l) (hn : l.length ≤ 500) : Calls Tryz.prog 240 #[v, .int .i64 t] w fun e w' => (∃ i, e = .returned (.int .i64 i) ∧ AtP l t i) ∧ Below w.heap.size w w' := by
 obtain ⟨p, cap, rfl, hrow⟩ := hv
 have HV := Lib.hid (show SpRow w (.slice p l.length cap) l from ⟨p, cap, rfl, hrow⟩)
 obtain ⟨n, hN⟩ : ∃ n, l.length = n := ⟨_, rfl⟩
 rw [hN] at hn ⊢
 have HN := Lib.hid hN
 clear hrow hN
 go_enter Tryz.func240, Tryz.ntmps240
 go_wp2_with fail
 go_loopw [5, 11] (fun bv iv wr => ∃ (k : Nat) (i : Int), k ≤ n ∧ bv = .int .i64 i ∧ iv = .int .i64 (k : Int) ∧ Below w.heap.size w wr ∧ Hid (WeI l t k i)) (fun _ iv _ => (n - intOf iv).toNat)
 case atStart => exact ⟨0, -1, by omega, rfl, rfl, Below.refl _ _, Lib.hid (.inl ⟨rfl, fun j _ h => by omega⟩)⟩
 case round =>
  obtain ⟨k, i, hk, rfl, rfl, hB, hW⟩ := hrel
  by_cases hlt : k < n
  ·have hd0 : decide (k < n) = true := by simpa using hlt
   have hi1 : (k : Int) < (n : Int) := by omega
   have hkl : k < l.length := by rw [HN.out]; exact hlt
   obtain ⟨b, cap', e, c0, c1, c2, c3⟩ := (HV.out.below hB).at hkl
   cases e
   have HK := Lib.hid hkl
   obtain ⟨s, hs⟩ : ∃ s, l[k] = s := ⟨_, rfl⟩
   replace c0 : wr.cell? ⟨b, k * 4, none⟩ = some (.int .i64 s.a) := by rw [← hs]; exact c0
   replace c1 : wr.cell? ⟨b, k * 4 + 1, none⟩ = some (.int .i64 s.b) := by rw [← hs]; exact c1
   replace c2 : wr.cell? ⟨b, k * 4 + 2, none⟩ = some (.int .i64 s.m) := by rw [← hs]; exact c2
   replace c3 : wr.cell? ⟨b, k * 4 + 3, none⟩ = some (.int .i64 s.p) := by rw [← hs]; exact c3
   have HS := Lib.hid hs
   have hbx := (Below.refl wr.heap.size wr).alloc (Nat.le_refl _) (.cells (spA s) 264)
   have hsx := BlockIs.new wr (spA s) 264
   obtain ⟨W, hWW⟩ : ∃ W, wr.alloc (.cells (spA s) 264) = W := ⟨_, rfl⟩
   rw [hWW] at hbx hsx
   have HWW := Lib.hid hWW
   have HVW := Lib.hid (HV.out.below (hB.trans (hbx.mono hB.size)))
   have HBW := Lib.hid (hB.trans (hbx.mono hB.size))
   have HSX := Lib.hid hsx
   clear hs hB hbx hsx hWW hkl
   go_upto_region 6 with fail
   change Code.wp _ _ _ _ (wr.alloc (.cells (spA s) 264))
   rw [HWW.out]
   clear c0 c1 c2 c3 HWW
   have hd := (Below.refl W.heap.size W).drew
   have cc : ∀ W', Below W.heap.size W W' → W'.cell? ⟨wr.heap.size, 0, none⟩ = some (.int .i64 s.a) ∧ W'.cell? ⟨wr.heap.size, 1, none⟩ = some (.int .i64 s.b) ∧ W'.cell? ⟨wr.heap.size, 2, none⟩ = some (.int .i64 s.m) ∧ W'.cell? ⟨wr.heap.size, 3, none⟩ = some (.int .i64 s.p) := fun W' hh => ⟨(HSX.out.kept hh).cell rfl, (HSX.out.kept hh).cell rfl, (HSX.out.kept hh).cell rfl, (HSX.out.kept hh).cell rfl⟩
   have HCC := Lib.hid cc
   clear cc
   obtain ⟨r, hr⟩ : ∃ r, inS s t = r := ⟨_, rfl⟩
   have HR := Lib.hid hr
   clear hr
   have hib : i < 0 ∨ 0 ≤ i := by omega
   cases r with
   | false =>
    refine wp_region_held_drew (S := fun W' => W'.cell? ⟨wr.heap.size, 0, none⟩ = some (.int .i64 s.a) ∧ W'.cell? ⟨wr.heap.size, 1, none⟩ = some (.int .i64 s.b) ∧ W'.cell? ⟨wr.heap.size, 2, none⟩ = some (.int .i64 s.m) ∧ W'.cell? ⟨wr.heap.size, 3, none⟩ = some (.int .i64 s.p)) (by kernel_rfl) (HCC.out _ hd) (fun hHeld => ?_)
    refine tkH 0 ?_
    try simp only [pt]
    refine tkH 1 ?_
    try simp only [pt]
    refine rdy [2] ?_
    refine' arC rfl (fun KK hKK => ?a2) AllReadyH.nil
    go_simp
    refine (swithin_ok s t _).mono ?_; rintro e w4 ⟨rfl, hb4⟩; rw [HR.out]; have hB4 := hd.trans (hb4.mono hd.size)
    refine hKK.out _ _ (HCC.out _ hB4) (fun _ => ?_)
    clear hKK KK
    try simp only [pt]
    refine tkH 3 ?_
    try simp only [pt]
    refine tkU 4 ?_
    try simp only [pt]
    refine tkU 5 ?_
    try simp only [pt]
    refine tkU 6 ?_
    try simp only [pt]
    refine tkU 7 ?_
    try simp only [pt]
    refine tkU 8 ?_
    try simp only [pt]
    refine tkU 9 ?_
    try simp only [pt]
    refine tkU 10 ?_
    try simp only [pt]
    refine tkU 11 ?_
    try simp only [pt]
    refine tkU 12 ?_
    try simp only [pt]
    refine tkU 13 ?_
    try simp only [pt]
    refine tkU 14 ?_
    try simp only [pt]
    refine tkU 15 ?_
    try simp only [pt]
    refine tkH 16 ?_
    try simp only [pt]
    refine wpAnyH_done (by kernel_rfl) ?_ _
    have HB5 := Lib.hid (HBW.out.trans (hB4.mono HBW.out.size))
    clear hHeld hd hB4 hb4 HCC
    go_wp2_with fail
    go_round
    case rel => exact ⟨k + 1, i, by omega, rfl, by go_num, HB5.out, Lib.hid (hW.out.no HK.out (by have h := HR.out; rw [← HS.out] at h; exact h))⟩
    case measure => simp [intOf]; omega
   | true =>
    have hnew := Lib.hid (show WeI l t (k + 1) (k : Int) from .inr ⟨k, HK.out, rfl, by have h := HR.out; rw [← HS.out] at h; exact h⟩)
    rcases hib with hib | hib
    ·have hdi : decide (i < 0) = true := by simpa using hib
     refine wp_region_held_drew (S := fun W' => W'.cell? ⟨wr.heap.size, 0, none⟩ = some (.int .i64 s.a) ∧ W'.cell? ⟨wr.heap.size, 1, none⟩ = some (.int .i64 s.b) ∧ W'.cell? ⟨wr.heap.size, 2, none⟩ = some (.int .i64 s.m) ∧ W'.cell? ⟨wr.heap.size, 3, none⟩ = some (.int .i64 s.p)) (by kernel_rfl) (HCC.out _ hd) (fun hHeld => ?_)
     refine tkH 0 ?_
     try simp only [pt]
     refine tkH 1 ?_
     try simp only [pt]
     refine rdy [2] ?_
     refine' arC rfl (fun KK hKK => ?b2) AllReadyH.nil
     go_simp
     refine (swithin_ok s t _).mono ?_; rintro e w4 ⟨rfl, hb4⟩; rw [HR.out]; have hB4 := hd.trans (hb4.mono hd.size)
     refine hKK.out _ _ (HCC.out _ hB4) (fun _ => ?_)
     clear hKK KK
     try simp only [pt]
     refine tkH 3 ?_
     try simp only [pt]
     refine tkH 4 ?_
     try simp only [pt]
     refine tkH 5 ?_
     try simp only [pt]
     refine tkH 6 ?_
     try simp only [pt]
     refine tkU 7 ?_
     try simp only [pt]
     refine tkU 8 ?_
     try simp only [pt]
     refine tkU 9 ?_
     try simp only [pt]
     refine tkU 10 ?_
     try simp only [pt]
     refine tkU 11 ?_
     try simp only [pt]
     refine tkU 12 ?_
     try simp only [pt]
     refine tkU 13 ?_
     try simp only [pt]
     refine tkU 14 ?_
     try simp only [pt]
     refine tkH 15 ?_
     try simp only [pt]
     refine tkH 16 ?_
     try simp only [pt]
     refine wpAnyH_done (by kernel_rfl) ?_ _
     have HB5 := Lib.hid (HBW.out.trans (hB4.mono HBW.out.size))
     clear hHeld hd hB4 hb4 HCC
     go_wp2_with fail
     go_round
     case rel => exact ⟨k + 1, k, by omega, rfl, by go_num, HB5.out, hnew⟩
     case measure => simp [intOf]; omega
    ·have hdi : decide (i < 0) = false := by simpa using hib
     rcases hW.out with ⟨rfl, _⟩ | ⟨kb, hkb, rfl, hcb⟩
     ·omega
     have hi2 : (kb : Int) < (n : Int) := by have := HN.out; omega
     obtain ⟨u, hu⟩ : ∃ u, l[kb] = u := ⟨_, rfl⟩
     have cb : ∀ W', Below W.heap.size W W' → (W'.cell? ⟨wr.heap.size, 0, none⟩ = some (.int .i64 s.a) ∧ W'.cell? ⟨wr.heap.size, 1, none⟩ = some (.int .i64 s.b) ∧ W'.cell? ⟨wr.heap.size, 2, none⟩ = some (.int .i64 s.m) ∧ W'.cell? ⟨wr.heap.size, 3, none⟩ = some (.int .i64 s.p)) ∧ W'.cell? ⟨b, kb * 4, none⟩ = some (.int .i64 u.a) ∧ W'.cell? ⟨b, kb * 4 + 1, none⟩ = some (.int .i64 u.b) ∧ W'.cell? ⟨b, kb * 4 + 2, none⟩ = some (.int .i64 u.m) ∧ W'.cell? ⟨b, kb * 4 + 3, none⟩ = some (.int .i64 u.p) := fun W' hh => by
      obtain ⟨b', cap'', e, g0, g1, g2, g3⟩ := (HVW.out.below hh).at hkb
      cases e
      rw [← hu]
      exact ⟨HCC.out _ hh, g0, g1, g2, g3⟩
     have HCB := Lib.hid cb
     clear cb hu hcb
     refine wp_region_held_drew (S := fun W' => (W'.cell? ⟨wr.heap.size, 0, none⟩ = some (.int .i64 s.a) ∧ W'.cell? ⟨wr.heap.size, 1, none⟩ = some (.int .i64 s.b) ∧ W'.cell? ⟨wr.heap.size, 2, none⟩ = some (.int .i64 s.m) ∧ W'.cell? ⟨wr.heap.size, 3, none⟩ = some (.int .i64 s.p)) ∧ W'.cell? ⟨b, kb * 4, none⟩ = some (.int .i64 u.a) ∧ W'.cell? ⟨b, kb * 4 + 1, none⟩ = some (.int .i64 u.b) ∧ W'.cell? ⟨b, kb * 4 + 2, none⟩ = some (.int .i64 u.m) ∧ W'.cell? ⟨b, kb * 4 + 3, none⟩ = some (.int .i64 u.p)) (by kernel_rfl) (HCB.out _ hd) (fun hHeld => ?_)
     refine tkH 0 ?_
     try simp only [pt]
     refine tkH 1 ?_
     try simp only [pt]
     refine rdy [2] ?_
     refine' arC rfl (fun KK hKK => ?c2) AllReadyH.nil
     go_simp
     refine (swithin_ok s t _).mono ?_; rintro e w4 ⟨rfl, hb4⟩; rw [HR.out]; have hB4 := hd.trans (hb4.mono hd.size)
     refine hKK.out _ _ (HCB.out _ hB4) (fun _ => ?_)
     clear hKK KK
     try simp only [pt]
     refine tkH 3 ?_
     try simp only [pt]
     refine tkH 4 ?_
     try simp only [pt]
     refine tkH 5 ?_
     try simp only [pt]
     refine tkH 6 ?_
     try simp only [pt]
     refine tkH 7 ?_
     try simp only [pt]
     refine tkH 8 ?_
     try simp only [pt]
     refine tkH 9 ?_
     try simp only [pt]
     refine tkH 10 ?_
     try simp only [pt]
     refine tkH 11 ?_
     try simp only [pt]
     refine tkH 12 ?_
     try simp only [pt]
     refine rdy [13] ?_
     refine' arC rfl (fun KK hKK => ?c13) AllReadyH.nil
     go_simp
     refine (sless_ok s u _).mono ?_; rintro e w5 ⟨rfl, hb5⟩; generalize lessV s u = r; have hB5 := hB4.trans (hb5.mono hB4.size)
     refine hKK.out _ _ (HCB.out _ hB5) (fun _ => ?_)
     clear hKK KK
     try simp only [pt]
     refine tkH 14 ?_
     try simp only [pt]
     refine tkH 15 ?_
     try simp only [pt]
     refine tkH 16 ?_
     try simp only [pt]
     refine wpAnyH_done (by kernel_rfl) ?_ _
     have HB5 := Lib.hid (HBW.out.trans (hB5.mono HBW.out.size))
     clear hHeld hd hB4 hb4 hb5 hB5 HCC HCB
     cases r with
     | true =>
      go_wp2_with fail
      go_round
      case rel => exact ⟨k + 1, kb, by omega, rfl, by go_num, HB5.out, Lib.hid (hW.out.elim (fun h => by omega) .inr)⟩
      case measure => simp [intOf]; omega
     | false =>
      go_wp2_with fail
      go_round
      case rel => exact ⟨k + 1, k, by omega, rfl, by go_num, HB5.out, hnew⟩
      case measure => simp [intOf]; omega
  ·have e : k = n := by omega
   subst e
   have hd : decide (k < k) = false := by simp
   have HB := Lib.hid hB
   clear hB
   go_wp2_with fail
   go_ret
   exact ⟨⟨_, rfl, WeI.all (by rw [HN.out]; exact hW.out)⟩, HB.out⟩
end Go.Proofs.YtfnifgppblbjhaaGreatDoor
namespace Go.Proofs.YtfnifgppblbjhaaGreatDoor
set_option maxHeartbeats 8000000
open Go Go.RowKit Go.Sort
set_option linter.unusedVariables false
set_option linter.unusedSimpArgs false
def enC (l : List Int) : List Value := l.map (.int .i64)
theorem ends_step {l : List Sp} {k : Nat} (h : k < l.length) : endsOf (l.take (k + 1)) = endsOf (l.take k) ++ [l[k].a, l[k].b] := by
 unfold endsOf
 rw [← List.take_append_getElem h, List.flatMap_append]
 simp
theorem ends_len (l : List Sp) : (endsOf l).length = 2 * l.length := by
 induction l with
 | nil => rfl
 | cons s l ih => unfold endsOf at ih ⊢; rw [List.flatMap_cons, List.length_append, ih]; simp; omega
theorem setOf_len (l : List Int) : (setOf l).length ≤ l.length := by
 unfold setOf Lib.compact Lib.compactUpTo
 rw [List.length_map]
 exact Nat.le_trans (List.length_filter_le _ _) (by simp)
theorem own_holds {w : World} {base n g cap : Nat} {xs : List Int} (h : w.ownsRow base 3 1 (.slice (some ⟨g, 0, none⟩) n cap) n (enC xs)) : Holds (Value.int .i64) w g 0 xs.toArray ∧ base ≤ g ∧ g < w.heap.size ∧ n ≤ cap ∧ xs.length = n := by
 obtain ⟨hl0, ⟨hbad, _⟩ | ⟨g', cap', cur, he, hge, hcur, hcap, hcm, hcs, htk⟩⟩ := h
 ·cases hbad
 ·cases he
  have hb : BlockIs w g cur 3 := hcur
  have hxl : xs.length = n := by simpa [enC] using hl0
  refine ⟨fun j hj => ?_, hge, hb.lt, hcap, hxl⟩
  have hj' : j < xs.length := by simpa using hj
  refine ⟨?_, by rw [Nat.zero_add]; exact hb.free j⟩
  rw [Nat.zero_add]
  refine hb.cell ?_
  rw [← Array.getElem?_toList]
  have e : (cur.toList.take (n * 1))[j]? = cur.toList[j]? := by rw [List.getElem?_take, if_pos (by omega)]
  rw [← e, htk, getElem!_pos _ j hj]
  simp [enC, hj']
set_option maxRecDepth 100000 in
theorem spieces_ok (l : List Sp) (v : Value) (w : World) (hv : SpRow w v l) (h0 : 0 < l.length) (hn : l.length ≤ 500) : Calls Tryz.prog 239 #[v] w fun e w' => ∃ g cap, e = .returned (.func (.func 258) #[] #[.pointer (some ⟨w.heap.size, 0, none⟩)]) ∧ BlockIs w' w.heap.size #[.slice (some ⟨g, 0, none⟩) (setOf (endsOf l)).length cap] 22 ∧ Holds (Value.int .i64) w' g 0 (setOf (endsOf l)).toArray ∧ w.heap.size < g ∧ g < w'.heap.size ∧ Below w.heap.size w w' := by
 obtain ⟨i0, hi0, hz0, hz1, hz2⟩ := info_hid int_info0
 obtain ⟨p, cap, rfl, hrow⟩ := hv
 have hb0 := (Below.refl w.heap.size w).alloc (Nat.le_refl _) (.cells #[.slice none 0 0] 22)
 have HV := Lib.hid (show SpRow w (.slice p l.length cap) l from ⟨p, cap, rfl, hrow⟩)
 have HK0 := Lib.hid (BlockIs.new w #[.slice none 0 0] 22)
 have HB0 := Lib.hid hb0
 obtain ⟨n, hN⟩ : ∃ n, l.length = n := ⟨_, rfl⟩
 rw [hN] at hn h0 ⊢
 have HN := Lib.hid hN
 clear hrow hN hb0
 go_enter Tryz.func239, Tryz.ntmps239
 go_wp2_with fail
 go_loopw [8] (fun iv wr => ∃ (k : Nat) (out : Value), k ≤ n ∧ iv = .int .i64 (k : Int) ∧ Hid (BlockIs wr w.heap.size #[out] 22) ∧ Hid (wr.ownsRow (w.heap.size + 1) 3 1 out (2 * k) (enC (endsOf (l.take k)))) ∧ Hid (Below w.heap.size w wr)) (fun iv _ => (n - intOf iv).toNat)
 case atStart => exact ⟨0, .slice none 0 0, by omega, rfl, HK0, Lib.hid (World.ownsRow_nil _ _ _ _), HB0⟩
 case round =>
  obtain ⟨k, out, hk, rfl, HK, HO, HB⟩ := hrel
  by_cases hlt : k < n
  ·have hd0 : decide (k < n) = true := by simpa using hlt
   have hi1 : (k : Int) < (n : Int) := by omega
   have hkl : k < l.length := by rw [HN.out]; exact hlt
   obtain ⟨b, cap', e, c0, c1, c2, c3⟩ := (HV.out.below HB.out).at hkl
   cases e
   have HST := Lib.hid (ends_step hkl)
   obtain ⟨s, hs⟩ : ∃ s, l[k] = s := ⟨_, rfl⟩
   replace c0 : wr.cell? ⟨b, k * 4, none⟩ = some (.int .i64 s.a) := by rw [← hs]; exact c0
   replace c1 : wr.cell? ⟨b, k * 4 + 1, none⟩ = some (.int .i64 s.b) := by rw [← hs]; exact c1
   replace c2 : wr.cell? ⟨b, k * 4 + 2, none⟩ = some (.int .i64 s.m) := by rw [← hs]; exact c2
   replace c3 : wr.cell? ⟨b, k * 4 + 3, none⟩ = some (.int .i64 s.p) := by rw [← hs]; exact c3
   have hst : endsOf (l.take (k + 1)) = endsOf (l.take k) ++ [s.a, s.b] := by have h := HST.out; rw [← hs]; exact h
   have HST2 := Lib.hid hst
   have yo := HK.out.cell (i := 0) (v := out) rfl
   have hsw := HB.out.size
   have hlo := HK.out.lt
   clear hs hkl HST hst
   go_wp2_with (at_builtin; refine wpList_append_lies _ rfl (.tmp 12) (.tmp 17) 22 rfl (w.heap.size + 1) 3 i0 (.int .i64 0) 1 8 Tryz.underlying22 (hi0 ()) hz0 hz1 hz2 rfl (by decide) _ (2 * k) _ rfl ((HO.out.alloc _).alloc _) ⟨wr.heap.size + 1, 0, none⟩ 2 2 [.int .i64 s.a, .int .i64 s.b] rfl rfl (row_new _ _ _ _ rfl) (int_one .i64 [s.a, s.b]) (by omega) (by unfold maxLen; omega) (by omega) (by simp; omega) _ rfl ?_)
   intro g7 cap7 w7 h7 hg7 hor7 hlt7
   have hz2 := (HK.out.alloc (.cells (spA s) 264)).alloc (.cells #[.int .i64 s.a, .int .i64 s.b] 3)
   have hbe7 : BlockIs w7 w.heap.size #[out] 22 := (hg7.block _ hz2.lt (fun e => by have := (HO.out.lt _ e.symm).1; omega)).trans hz2
   have yo7 := hbe7.cell (i := 0) (v := out) rfl
   have fo7 := hbe7.free 0
   have hTn := (Turn.refl (fun j => j = w.heap.size) w7).setCell rfl 0 (.slice (some ⟨g7, 0, none⟩) (2 * k + 2) cap7)
   have HO8 := Lib.hid (hTn.own h7 (fun j hj => by have := (h7.lt _ hj).1; omega))
   have HK8 := Lib.hid (hbe7.set 0 (.slice (some ⟨g7, 0, none⟩) (2 * k + 2) cap7))
   have hB7 := ((HB.out.alloc hsw (.cells (spA s) 264)).alloc (by simp; omega) (.cells #[.int .i64 s.a, .int .i64 s.b] 3)).grown hg7 (by simp; omega) (fun j e => by have := (HO.out.lt j e).1; omega)
   have HB8 := Lib.hid (hB7.setCell (p := ⟨w.heap.size, 0, none⟩) (Nat.le_refl _) (.slice (some ⟨g7, 0, none⟩) (2 * k + 2) cap7))
   clear h7 hg7 hor7 hz2 hbe7 hTn hB7 yo c0 c1 c2 c3
   go_wp2_with fail
   go_round
   case rel =>
    refine ⟨k + 1, _, by omega, by go_num, HK8, Lib.hid ?_, HB8⟩
    have h := HO8.out
    rw [show 2 * (k + 1) = 2 * k + 2 by omega, HST2.out]
    unfold enC at h ⊢
    rw [List.map_append]
    exact h
   case measure => simp [intOf]; omega
  ·have e : k = n := by omega
   subst e
   have hd0 : decide (k < k) = false := by simp
   have ho := HO.out
   rw [← HN.out, List.take_length] at ho
   obtain ⟨g, cp, rfl, hg1, hg2⟩ := ho.form (by have := HN.out; omega)
   obtain ⟨hH, hg3, hg4, hg5, hg6⟩ := own_holds ho
   have hl2 : (endsOf l).length = 2 * k := by rw [ends_len, HN.out]
   obtain ⟨m, hm⟩ : ∃ m, (endsOf l).length = m := ⟨_, rfl⟩
   have hm2 : 2 * l.length = m := by rw [HN.out, ← hl2, hm]
   have hm500 : m ≤ 1000 := by omega
   have hmc : m ≤ cp := by omega
   have hK := HK.out
   rw [hm2] at hK
   have yo := hK.cell (i := 0) (v := .slice (some ⟨g, 0, none⟩) m cp) rfl
   have HK := Lib.hid hK
   have HH := Lib.hid hH
   have HM := Lib.hid hm
   have hlo := HK.out.lt
   clear ho hH HO hl2 hm hm2 hg5 hg6 hK
   go_wp2_with fail
   rw [← HM.out]
   refine (sort_ints (endsOf l) g cp _ HH.out hg4 (by rw [HM.out]; omega)).mono ?_; rintro e w1 ⟨rfl, hgr1, hH1⟩
   have hbe1 : BlockIs w1 w.heap.size #[.slice (some ⟨g, 0, none⟩) m cp] 22 := (hgr1.block _ hlo (fun e => by cases e; omega)).trans HK.out
   have yo1 := hbe1.cell (i := 0) (v := .slice (some ⟨g, 0, none⟩) m cp) rfl
   have fo1 := hbe1.free 0
   have hs1 := hgr1.size
   have HB1 := Lib.hid (HB.out.grown hgr1 HB.out.size (fun j e => by cases e; omega))
   have HBE1 := Lib.hid hbe1
   have HH1 := Lib.hid hH1
   have HSL := Lib.hid (show ((endsOf l).mergeSort fun x y => decide (x ≤ y)).length = m by rw [List.length_mergeSort, HM.out])
   rw [HM.out]
   clear hgr1 hbe1 hH1 yo HH HB HK
   go_wp2_with fail
   rw [← HSL.out]
   refine (comp_ints _ g cp _ HH1.out (by omega) (by rw [HSL.out]; omega) (by rw [HSL.out]; omega)).mono ?_; rintro e w2 ⟨rfl, hgr2, hH2⟩
   rw [HSL.out]
   rw [show (Lib.compact ((endsOf l).mergeSort fun x y => decide (x ≤ y))) = setOf (endsOf l) from rfl]
   have hbe2 : BlockIs w2 w.heap.size #[.slice (some ⟨g, 0, none⟩) m cp] 22 := (hgr2.block _ HBE1.out.lt (fun e => by cases e; omega)).trans HBE1.out
   have yo2 := hbe2.cell (i := 0) (v := .slice (some ⟨g, 0, none⟩) m cp) rfl
   have fo2 := hbe2.free 0
   have hs2 := hgr2.size
   have HGG := Lib.hid (show w.heap.size < g ∧ g < (w2.setCell ⟨w.heap.size, 0, none⟩ (.slice (some ⟨g, 0, none⟩) (setOf (endsOf l)).length cp)).heap.size from ⟨by omega, by rw [show (w2.setCell ⟨w.heap.size, 0, none⟩ (.slice (some ⟨g, 0, none⟩) (setOf (endsOf l)).length cp)).heap.size = w2.heap.size by simp]; omega⟩)
   have HBE3 := Lib.hid (hbe2.set 0 (.slice (some ⟨g, 0, none⟩) (setOf (endsOf l)).length cp))
   have hB2 := HB1.out.grown hgr2 HB1.out.size (fun j e => by cases e; omega)
   have HB3 := Lib.hid (hB2.setCell (p := ⟨w.heap.size, 0, none⟩) (Nat.le_refl _) (.slice (some ⟨g, 0, none⟩) (setOf (endsOf l)).length cp))
   have HH3 := Lib.hid (show Holds (Value.int .i64) (w2.setCell ⟨w.heap.size, 0, none⟩ (.slice (some ⟨g, 0, none⟩) (setOf (endsOf l)).length cp)) g 0 (setOf (endsOf l)).toArray from fun j hj => by
    have h := hH2 j hj
    refine ⟨?_, by rw [← h.2]; simp⟩
    rw [World.cell?_setCell_other _ _ _ _ (by intro e; have h3 := congrArg Addr.block e; dsimp only at h3; omega)]
    exact h.1)
   clear hgr2 hH2 hbe2 hB2 HB1 HBE1 HH1 yo1 fo1
   obtain ⟨L, hL⟩ : ∃ L, (setOf (endsOf l)).length = L := ⟨_, rfl⟩
   have HLn := Lib.hid hL
   rw [hL] at HBE3 HB3 HH3 HGG ⊢
   clear hL
   go_wp2_with fail
   go_ret
   have hgg := HGG.out
   have hL := HLn.out
   subst hL
   exact ⟨g, cp, rfl, HBE3.out, HH3.out, hgg.1, hgg.2, HB3.out⟩
end Go.Proofs.YtfnifgppblbjhaaGreatDoor
