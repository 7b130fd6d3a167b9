/- Part of the proof of TopHoly. -/
import Derived.Test.YtfnifgppblbjhaaGreatDoorY01
import Derived.Test.YtfnifgppblbjhaaGreatDoorY10
import Derived.Test.YtfnifgppblbjhaaGreatDoorY11
import Derived.Test.YtfnifgppblbjhaaGreatDoorY12
import Derived.Test.YtfnifgppblbjhaaGreatDoorY14
import Derived.Deep.DeepCutAuto
import Derived.Deep.RegionHeld3
import Derived.Laws.CopyOwn
import Derived.Laws.ResultCell
import Derived.StillTailTactics
namespace Go.Proofs.YtfnifgppblbjhaaGreatDoor
set_option maxHeartbeats 8000000
open Go Go.RowKit
set_option linter.unusedVariables false
set_option linter.unusedSimpArgs false
theorem fmay_ok (g k m : Int) (p : Option Addr) (n c : Nat) (w : World) (g1 : 1 ≤ g) (g2 : g ≤ 1099511627776) (m1 : 0 ≤ m) (m2 : m ≤ 5) (hn : n ≤ 4096) :
  Calls Tryz.prog 148 #[.agg #[.int .i64 g, .int .i64 k, .int .i64 m, .slice p n c]] w fun e w' => e = .returned (.bool true) ∧ Below w.heap.size w w' := by
 have HB := Lib.hid ((Below.refl w.heap.size w).alloc (Nat.le_refl _) (.cells #[.int .i64 g, .int .i64 k, .int .i64 m, .slice p n c] 70))
 have HN := Lib.hid (show decide ((n : Int) ≤ 4096) = true by simp; omega)
 have hd2 : decide (g ≤ 1099511627776) = true := by simpa using g2
 have h1 : decide (1 ≤ g) = true := by simpa using g1
 have h2 : decide (0 ≤ m) = true := by simpa using m1
 have h3 : decide (m ≤ 5) = true := by simpa using m2
 clear hn g2 g1 m1 m2
 go_enter Tryz.func148, Tryz.ntmps148
 go_wp2_with fail
 go_ret
 exact ⟨by rw [HN.out]; rfl, HB.out⟩
theorem fcode_ok (g k m : Int) (v : Value) (l : List Nat) (w : World) (ht : Tab w) (hv : Rd w v l.length (bts l)) (hb : ∀ x ∈ l, x < 256) (hl : l.length ≤ 4096) (hl0 : 0 < l.length) (g1 : 1 ≤ g) (g2 : g ≤ 1099511627776) (hk : I64 k) (m1 : 0 ≤ m) (m2 : m ≤ 5) :
  Calls Tryz.prog 141 #[.agg #[.int .i64 g, .int .i64 k, .int .i64 m, v]] w fun e w' => ∃ v', e = .returned (.tuple #[v', .int .i64 0]) ∧ w'.ownsRow w.heap.size 5 1 v' (recB g k m l).length (bts (recB g k m l)) ∧ Below w.heap.size w w' := by
 obtain ⟨i0, hi0, hz0, hz1, hz2⟩ := info_hid byte_info
 obtain ⟨bv, ov, cv, rfl, hcv, hrv⟩ := hv.some hl0
 obtain ⟨n, hn⟩ : ∃ n, l.length = n := ⟨_, rfl⟩
 have HX := Lib.hid (show I64 g ∧ I64 m ∧ I64 k from ⟨⟨by omega, by omega⟩, ⟨by omega, by omega⟩, hk⟩)
 obtain ⟨R, hR⟩ : ∃ R, rowB [g, k, m] = R := ⟨_, rfl⟩
 have hRl := rowB_len [g, k, m]
 rw [hR] at hRl
 have hPl := putN_len (l.length : Int)
 have HRB := Lib.hid (rowB_byte (l := [g, k, m]) (by intro x hx; simp at hx; rcases hx with e | e | e <;> subst e <;> first | exact HX.out.1 | exact HX.out.2.1 | exact HX.out.2.2) (by simp))
 have HPB := Lib.hid (putN_byte (n := (l.length : Int)) (by omega) (by omega))
 rw [hR] at HRB
 have HREC := Lib.hid (show recB g k m l = sealV (R ++ (putN (n : Int) ++ l)) by unfold recB; rw [hR, hn])
 rw [hn] at HPB hPl hl hl0 hcv ⊢
 obtain ⟨P, hP⟩ : ∃ P, putN (n : Int) = P := ⟨_, rfl⟩
 have HP := Lib.hid hP
 rw [hP] at HPB hPl HREC
 have HRR := Lib.hid hR
 have HBL := Lib.hid hb
 have HN := Lib.hid hn
 simp only [List.length_cons, List.length_nil] at hRl
 have w1B := (Below.refl w.heap.size w).alloc (Nat.le_refl _) (.cells #[.int .i64 g, .int .i64 k, .int .i64 m, .slice (some ⟨bv, ov, none⟩) n cv] 70)
 have bR := BlockIs.new w #[.int .i64 g, .int .i64 k, .int .i64 m, .slice (some ⟨bv, ov, none⟩) n cv] 70
 obtain ⟨w1, hw1⟩ : ∃ w1, w.alloc (.cells #[.int .i64 g, .int .i64 k, .int .i64 m, .slice (some ⟨bv, ov, none⟩) n cv] 70) = w1 := ⟨_, rfl⟩
 rw [hw1] at w1B bR
 have HW1 := Lib.hid hw1
 clear hw1 hR hP hb hk hv hn
 have hcode := fmay_ok g k m (some ⟨bv, ov, none⟩) n cv w1 g1 g2 m1 m2 hl
 have HCODE := Lib.hid hcode
 clear hcode
 clear g1 g2 m1 m2
 have e0 : w1.cell? ⟨w.heap.size, 0, none⟩ = some (.int .i64 g) := bR.cell rfl
 have e1 : w1.cell? ⟨w.heap.size, 1, none⟩ = some (.int .i64 k) := bR.cell rfl
 have e2 : w1.cell? ⟨w.heap.size, 2, none⟩ = some (.int .i64 m) := bR.cell rfl
 have e3 : w1.cell? ⟨w.heap.size, 3, none⟩ = some (.slice (some ⟨bv, ov, none⟩) n cv) := bR.cell rfl
 go_enter Tryz.func141, Tryz.ntmps141
 go_wp2_with fail
 try rw [HW1.out]
 refine HCODE.out.mono ?_; rintro e wc ⟨rfl, hbc⟩
 have bR := bR.kept hbc
 have w1B := w1B.trans (hbc.mono w1B.size)
 clear HCODE hbc e0 e1 e2 e3 HW1
 have e0 : wc.cell? ⟨w.heap.size, 0, none⟩ = some (.int .i64 g) := bR.cell rfl
 have e1 : wc.cell? ⟨w.heap.size, 1, none⟩ = some (.int .i64 k) := bR.cell rfl
 have e2 : wc.cell? ⟨w.heap.size, 2, none⟩ = some (.int .i64 m) := bR.cell rfl
 have e3 : wc.cell? ⟨w.heap.size, 3, none⟩ = some (.slice (some ⟨bv, ov, none⟩) n cv) := bR.cell rfl
 go_wp2_with fail
 have b2 := BlockIs.new wc #[.int .i64 g, .int .i64 k, .int .i64 m] 3
 have hrd : Rd (wc.alloc (.cells #[.int .i64 g, .int .i64 k, .int .i64 m] 3)) (.slice (some ⟨wc.heap.size, 0, none⟩) 3 3) [g, k, m].length ([g, k, m].map (.int .i64)) := .inr ⟨by simp, _, 0, 3, rfl, by simp, fun j u hu => by rw [Nat.zero_add]; exact b2.cell (by simpa using hu)⟩
 have w2B := w1B.alloc w1B.size (.cells #[.int .i64 g, .int .i64 k, .int .i64 m] 3)
 have bR2 := bR.alloc (.cells #[.int .i64 g, .int .i64 k, .int .i64 m] 3)
 clear e0 e1 e2 e3
 refine (wrow_any [g, k, m] _ _ hrd (by simp) (by intro x hx; simp at hx; rcases hx with e | e | e <;> subst e <;> first | exact HX.out.1 | exact HX.out.2.1 | exact HX.out.2.2)).mono ?_; rintro e w3 ⟨v3, rfl, h3, hb3⟩
 rw [HRR.out] at h3
 have w3B := w2B.trans (hb3.mono w2B.size)
 have bR3 := bR2.kept hb3
 have h3 := h3.mono (base' := w.heap.size + 1) (by have := bR2.lt; have := bR.lt; simp; omega)
 clear hb3 w2B bR2 hrd b2 w1B bR
 have e3 : w3.cell? ⟨w.heap.size, 3, none⟩ = some (.slice (some ⟨bv, ov, none⟩) n cv) := bR3.cell rfl
 obtain ⟨q, hq⟩ : ∃ q, R.length = q := ⟨_, rfl⟩
 rw [hq] at h3 hRl
 obtain ⟨g3, c3, rfl, hg3, hc3⟩ := h3.form (by omega)
 go_wp2_with fail
 refine (wput_any (n : Int) _ ⟨by omega, by omega⟩).mono ?_; rintro e w4 ⟨v4, rfl, h4, hb4⟩
 rw [HP.out] at h4
 obtain ⟨p, hp⟩ : ∃ p, P.length = p := ⟨_, rfl⟩
 rw [hp] at h4 hPl
 obtain ⟨g4, c4, rfl, hg4, hc4⟩ := h4.form (by omega)
 have w4B := w3B.trans (hb4.mono w3B.size)
 have h34 := own_below h3 hb4
 have bR4 := bR3.kept hb4
 have n4 := h4.cells (g := g4) rfl
 have l4 : (bts P).length = p * 1 := by rw [bts_len]; omega
 have o4 := bts_one P
 obtain ⟨NW, hNW⟩ : ∃ NW, bts P = NW := ⟨_, rfl⟩
 rw [hNW] at n4 l4 o4
 have HNW := Lib.hid (show bts R ++ NW = bts (R ++ P) by rw [bts_app, hNW])
 clear hNW hb4 h3 w3B bR3 e3
 go_wp2_with (first | (at_builtin; refine wpList_append_lies _ rfl (.tmp 16) (.tmp 20) 52 rfl (w.heap.size + 1) 5 i0 (.int .u8 0) 1 1 Tryz.underlying52 (hi0 ()) hz0 hz1 hz2 rfl (by decide) _ q _ rfl h34 ⟨g4, 0, none⟩ p c4 NW rfl l4 n4 o4 (by omega) (by unfold maxLen; omega) (by omega) (by have := bR4.lt; omega) _ rfl ?_))
 intro g5 c5 w5 h5 hg5 hor5 hlt5
 have hne : w.heap.size ≠ g3 := by have := (h34.lt g3 rfl).1; omega
 have hne5 : w.heap.size ≠ g5 := by
  rcases hor5 with e | e
  ·simp [Value.ownBlock] at e; omega
  ·have := bR4.lt; omega
 have w5B := w4B.grown hg5 w4B.size (fun k e => by have := (h34.lt k e).1; omega)
 rw [HNW.out] at h5
 have bR5 : BlockIs w5 w.heap.size _ 70 := (hg5.block _ bR4.lt (by simp [Value.ownBlock]; exact hne)).trans bR4
 have hv5 := range_keep hrv w5B
 have e3 : w5.cell? ⟨w.heap.size, 3, none⟩ = some (.slice (some ⟨bv, ov, none⟩) n cv) := bR5.cell rfl
 have l5 : (bts l).length = n * 1 := by rw [bts_len, HN.out]; omega
 have o5 := bts_one l
 obtain ⟨LW, hLW⟩ : ∃ LW, bts l = LW := ⟨_, rfl⟩
 rw [hLW] at hv5 l5 o5 hrv
 have HLW := Lib.hid (show bts (R ++ P) ++ LW = bts (R ++ (P ++ l)) by rw [← hLW, ← bts_app, List.append_assoc])
 have n5 : ∀ j u, LW[j]? = some u → w5.cell? ((⟨bv, ov, none⟩ : Addr).add j) = some u := fun j u hu => by rw [Addr.add_mid]; exact hv5 j u hu
 clear HNW n4 l4 o4 h34 h4 hLW hv5 hg5 hor5 w4B bR4 hrv
 go_wp2_with (first | (at_builtin; refine wpList_append_lies _ rfl (.tmp 22) (.tmp 24) 52 rfl (w.heap.size + 1) 5 i0 (.int .u8 0) 1 1 Tryz.underlying52 (hi0 ()) hz0 hz1 hz2 rfl (by decide) _ (q + p) _ rfl h5 ⟨bv, ov, none⟩ n cv LW rfl l5 n5 o5 (by omega) (by unfold maxLen; omega) (by omega) (by have := bR5.lt; omega) _ rfl ?_))
 intro g6 c6 w6 h6 hg6 hor6 hlt6
 rw [HLW.out] at h6
 have w6B := w5B.grown hg6 w5B.size (fun k e => by have := (h5.lt k e).1; omega)
 have hlen : (R ++ (P ++ l)).length = q + p + n := by simp only [List.length_append, hq, hp, HN.out]; omega
 have hX : ∀ x ∈ R ++ (P ++ l), x < 256 := by
  intro x hx
  rcases List.mem_append.1 hx with hx | hx
  ·exact HRB.out x hx
  ·rcases List.mem_append.1 hx with hx | hx
   ·exact HPB.out x hx
   ·exact HBL.out x hx
 have h6 := own_rd h6
 have hS := cseal_ok (R ++ (P ++ l)) (.slice (some ⟨g6, 0, none⟩) (q + p + n) c6) w6 (ht.below w6B) (by rw [hlen]; exact h6) hX (by rw [hlen]; omega) (by rw [hlen]; omega)
 rw [← HREC.out] at hS
 have HS := Lib.hid hS
 clear hlen HLW n5 l5 o5 h5 bR5 hg6 hor6 w5B e3 h6 hX hS
 go_wp2_with fail
 refine HS.out.mono ?_; rintro e w7 ⟨v7, rfl, h7, hb7⟩
 have hsz := w6B.size
 have H7 := Lib.hid (h7.mono (base' := w.heap.size) hsz)
 have B7 := Lib.hid (w6B.trans (hb7.mono hsz))
 clear h7 hb7 w6B HS
 go_wp2_with fail
 go_ret2
 exact ⟨_, rfl, H7.out, B7.out⟩
theorem rcode12_ok (g k m : Int) (v : Value) (l : List Nat) (w : World) (hv : Rd w v l.length (bts l)) (hb : ∀ x ∈ l, x < 256) (hl : l.length ≤ 4096) (hl0 : 0 < l.length) (g1 : 1 ≤ g) (g2 : g ≤ 1099511627776) (hk : I64 k) (m1 : 0 ≤ m) (m2 : m ≤ 5) :
  Calls Tryz.prog 19 #[.agg #[.int .i64 g, .int .i64 k, .int .i64 m, v]] w fun e w' => ∃ v', e = .returned v' ∧ w'.ownsRow w.heap.size 5 1 v' (recB g k m l).length (bts (recB g k m l)) ∧ Below w.heap.size w w' := by
 obtain ⟨i0, hi0, hz0, hz1, hz2⟩ := info_hid byte_info
 obtain ⟨bv, ov, cv, rfl, hcv, hrv⟩ := hv.some hl0
 obtain ⟨n, hn⟩ : ∃ n, l.length = n := ⟨_, rfl⟩
 have HX := Lib.hid (show I64 g ∧ I64 m ∧ I64 k from ⟨⟨by omega, by omega⟩, ⟨by omega, by omega⟩, hk⟩)
 obtain ⟨R, hR⟩ : ∃ R, rowB [g, k, m] = R := ⟨_, rfl⟩
 have hRl := rowB_len [g, k, m]
 rw [hR] at hRl
 have hPl := putN_len (l.length : Int)
 have HRB := Lib.hid (rowB_byte (l := [g, k, m]) (by intro x hx; simp at hx; rcases hx with e | e | e <;> subst e <;> first | exact HX.out.1 | exact HX.out.2.1 | exact HX.out.2.2) (by simp))
 have HPB := Lib.hid (putN_byte (n := (l.length : Int)) (by omega) (by omega))
 rw [hR] at HRB
 have HREC := Lib.hid (show recB g k m l = sealV (R ++ (putN (n : Int) ++ l)) by unfold recB; rw [hR, hn])
 rw [hn] at HPB hPl hl hl0 hcv ⊢
 obtain ⟨P, hP⟩ : ∃ P, putN (n : Int) = P := ⟨_, rfl⟩
 have HP := Lib.hid hP
 rw [hP] at HPB hPl HREC
 have HRR := Lib.hid hR
 have HBL := Lib.hid hb
 have HN := Lib.hid hn
 simp only [List.length_cons, List.length_nil] at hRl
 have w1B := (Below.refl w.heap.size w).alloc (Nat.le_refl _) (.cells #[.int .i64 g, .int .i64 k, .int .i64 m, .slice (some ⟨bv, ov, none⟩) n cv] 70)
 have bR := BlockIs.new w #[.int .i64 g, .int .i64 k, .int .i64 m, .slice (some ⟨bv, ov, none⟩) n cv] 70
 obtain ⟨w1, hw1⟩ : ∃ w1, w.alloc (.cells #[.int .i64 g, .int .i64 k, .int .i64 m, .slice (some ⟨bv, ov, none⟩) n cv] 70) = w1 := ⟨_, rfl⟩
 rw [hw1] at w1B bR
 have HW1 := Lib.hid hw1
 have hzw : w1.heap.size = w.heap.size + 1 := by rw [← hw1]; simp
 clear hw1 hR hP hb hk hv hn
 clear g1 g2 m1 m2
 have e0 : w1.cell? ⟨w.heap.size, 0, none⟩ = some (.int .i64 g) := bR.cell rfl
 have e1 : w1.cell? ⟨w.heap.size, 1, none⟩ = some (.int .i64 k) := bR.cell rfl
 have e2 : w1.cell? ⟨w.heap.size, 2, none⟩ = some (.int .i64 m) := bR.cell rfl
 have e3 : w1.cell? ⟨w.heap.size, 3, none⟩ = some (.slice (some ⟨bv, ov, none⟩) n cv) := bR.cell rfl
 go_enter Tryz.func19, Tryz.ntmps19
 go_wp2_with fail
 try rw [HW1.out]
 clear HW1
 have b2 := BlockIs.new w1 #[.int .i64 g, .int .i64 k, .int .i64 m] 3
 have hrd : Rd (w1.alloc (.cells #[.int .i64 g, .int .i64 k, .int .i64 m] 3)) (.slice (some ⟨w1.heap.size, 0, none⟩) 3 3) [g, k, m].length ([g, k, m].map (.int .i64)) := .inr ⟨by simp, _, 0, 3, rfl, by simp, fun j u hu => by rw [Nat.zero_add]; exact b2.cell (by simpa using hu)⟩
 have w2B := w1B.alloc w1B.size (.cells #[.int .i64 g, .int .i64 k, .int .i64 m] 3)
 have bR2 := bR.alloc (.cells #[.int .i64 g, .int .i64 k, .int .i64 m] 3)
 clear e0 e1 e2 e3
 rw [hzw] at hrd
 refine (rrow_any [g, k, m] _ _ hrd (by simp) (by intro x hx; simp at hx; rcases hx with e | e | e <;> subst e <;> first | exact HX.out.1 | exact HX.out.2.1 | exact HX.out.2.2)).mono ?_; rintro e w3 ⟨v3, rfl, h3, hb3⟩
 rw [HRR.out] at h3
 have w3B := w2B.trans (hb3.mono w2B.size)
 have bR3 := bR2.kept hb3
 have h3 := h3.mono (base' := w.heap.size + 1) (by have := bR2.lt; have := bR.lt; simp; omega)
 clear hb3 w2B bR2 hrd b2 w1B bR
 have e3 : w3.cell? ⟨w.heap.size, 3, none⟩ = some (.slice (some ⟨bv, ov, none⟩) n cv) := bR3.cell rfl
 obtain ⟨q, hq⟩ : ∃ q, R.length = q := ⟨_, rfl⟩
 rw [hq] at h3 hRl
 obtain ⟨g3, c3, rfl, hg3, hc3⟩ := h3.form (by omega)
 go_wp2_with fail
 refine (rput_any (n : Int) _ ⟨by omega, by omega⟩).mono ?_; rintro e w4 ⟨v4, rfl, h4, hb4⟩
 rw [HP.out] at h4
 obtain ⟨p, hp⟩ : ∃ p, P.length = p := ⟨_, rfl⟩
 rw [hp] at h4 hPl
 obtain ⟨g4, c4, rfl, hg4, hc4⟩ := h4.form (by omega)
 have w4B := w3B.trans (hb4.mono w3B.size)
 have h34 := own_below h3 hb4
 have bR4 := bR3.kept hb4
 have n4 := h4.cells (g := g4) rfl
 have l4 : (bts P).length = p * 1 := by rw [bts_len]; omega
 have o4 := bts_one P
 obtain ⟨NW, hNW⟩ : ∃ NW, bts P = NW := ⟨_, rfl⟩
 rw [hNW] at n4 l4 o4
 have HNW := Lib.hid (show bts R ++ NW = bts (R ++ P) by rw [bts_app, hNW])
 clear hNW hb4 h3 w3B bR3 e3
 go_wp2_with (first | (at_builtin; refine wpList_append_lies _ rfl (.tmp 12) (.tmp 16) 52 rfl (w.heap.size + 1) 5 i0 (.int .u8 0) 1 1 Tryz.underlying52 (hi0 ()) hz0 hz1 hz2 rfl (by decide) _ q _ rfl h34 ⟨g4, 0, none⟩ p c4 NW rfl l4 n4 o4 (by omega) (by unfold maxLen; omega) (by omega) (by have := bR4.lt; omega) _ rfl ?_))
 intro g5 c5 w5 h5 hg5 hor5 hlt5
 have hne : w.heap.size ≠ g3 := by have := (h34.lt g3 rfl).1; omega
 have hne5 : w.heap.size ≠ g5 := by
  rcases hor5 with e | e
  ·simp [Value.ownBlock] at e; omega
  ·have := bR4.lt; omega
 have w5B := w4B.grown hg5 w4B.size (fun k e => by have := (h34.lt k e).1; omega)
 rw [HNW.out] at h5
 have bR5 : BlockIs w5 w.heap.size _ 70 := (hg5.block _ bR4.lt (by simp [Value.ownBlock]; exact hne)).trans bR4
 have hv5 := range_keep hrv w5B
 have e3 : w5.cell? ⟨w.heap.size, 3, none⟩ = some (.slice (some ⟨bv, ov, none⟩) n cv) := bR5.cell rfl
 have l5 : (bts l).length = n * 1 := by rw [bts_len, HN.out]; omega
 have o5 := bts_one l
 obtain ⟨LW, hLW⟩ : ∃ LW, bts l = LW := ⟨_, rfl⟩
 rw [hLW] at hv5 l5 o5 hrv
 have HLW := Lib.hid (show bts (R ++ P) ++ LW = bts (R ++ (P ++ l)) by rw [← hLW, ← bts_app, List.append_assoc])
 have n5 : ∀ j u, LW[j]? = some u → w5.cell? ((⟨bv, ov, none⟩ : Addr).add j) = some u := fun j u hu => by rw [Addr.add_mid]; exact hv5 j u hu
 clear HNW n4 l4 o4 h34 h4 hLW hv5 hg5 hor5 w4B bR4 hrv
 go_wp2_with (first | (at_builtin; refine wpList_append_lies _ rfl (.tmp 18) (.tmp 20) 52 rfl (w.heap.size + 1) 5 i0 (.int .u8 0) 1 1 Tryz.underlying52 (hi0 ()) hz0 hz1 hz2 rfl (by decide) _ (q + p) _ rfl h5 ⟨bv, ov, none⟩ n cv LW rfl l5 n5 o5 (by omega) (by unfold maxLen; omega) (by omega) (by have := bR5.lt; omega) _ rfl ?_))
 intro g6 c6 w6 h6 hg6 hor6 hlt6
 rw [HLW.out] at h6
 have w6B := w5B.grown hg6 w5B.size (fun k e => by have := (h5.lt k e).1; omega)
 have hlen : (R ++ (P ++ l)).length = q + p + n := by simp only [List.length_append, hq, hp, HN.out]; omega
 have hX : ∀ x ∈ R ++ (P ++ l), x < 256 := by
  intro x hx
  rcases List.mem_append.1 hx with hx | hx
  ·exact HRB.out x hx
  ·rcases List.mem_append.1 hx with hx | hx
   ·exact HPB.out x hx
   ·exact HBL.out x hx
 have h6 := own_rd h6
 have hS := rseal_ok (R ++ (P ++ l)) (.slice (some ⟨g6, 0, none⟩) (q + p + n) c6) w6 (by rw [hlen]; exact h6) hX (by rw [hlen]; omega) (by rw [hlen]; omega)
 rw [← HREC.out] at hS
 have HS := Lib.hid hS
 clear hlen HLW n5 l5 o5 h5 bR5 hg6 hor6 w5B e3 h6 hX hS
 go_wp2_with fail
 refine HS.out.mono ?_; rintro e w7 ⟨v7, rfl, h7, hb7⟩
 have hsz := w6B.size
 have H7 := Lib.hid (h7.mono (base' := w.heap.size) hsz)
 have B7 := Lib.hid (w6B.trans (hb7.mono hsz))
 clear h7 hb7 w6B HS
 go_wp2_with fail
 go_ret
 exact ⟨_, rfl, H7.out, B7.out⟩
theorem rec_info : (Tryz.prog.info? 70).map (·.size) = some 4 := by kernel_rfl
theorem wpList_copy_eq {P : Program} {w : World} {ops : Array Oper} {rest : List Oper} {o : Oper} {a : Act} {Q : Exit → Act → World → Prop} (hgd : o.guard = none) (d s : Operand) (dT sT : TypeId)
  (ho : o.op = .call { callee := .builtin .copy, args := #[d, s], argTypes := #[dT, sT] }) (elem : TypeId) (hu : P.underlying dT = some (.slice elem)) (hsz : (P.info? elem).map (·.size) = some 1)
  (g dLen dCap : Nat) (ad : Addr) (sLen sCap : Nat) (hd : a.eval d = .slice (some ⟨g, 0, none⟩) dLen dCap) (hs : a.eval s = .slice (some ad) sLen sCap)
  (cur : Array Value) (t : TypeId) (hg : w.heap[g]? = some (.cells cur t (0, 0))) (cs : List Value) (hn : cs.length = Nat.min sLen dLen)
  (hsrc : ∀ j v, cs[j]? = some v → w.cell? (ad.add j) = some v) (hfit : cs.length = cur.size) (h1 : ∀ v ∈ cs, v.oneCell' = true)
  (h : ∀ w', Hid (w' = w.setRow g cs.toArray) → wpList P ops Q rest (a.put o.dst (goInt cs.length)) w') : wpList P ops Q (o :: rest) a w := by
 refine wpList_copy_own hgd d s dT sT ho elem hu hsz g 0 dLen dCap ad sLen sCap hd hs cur t hg cs hn hsrc (by omega) h1 ?_
 refine h _ (show _ = _ from ?_)
 congr 2
 rw [List.take_zero, List.nil_append, Nat.zero_add, List.drop_eq_nil_of_le (by rw [Array.length_toList]; omega), List.append_nil]
theorem res_cell_tmp {fn : Func} {p u : Tmp} {ty : TypeId} (h : fn.results = #[.cell p ty, .tmp u]) (tmps : Array Value) {P : Program} (w : World) (b : Nat) (t : TypeId) (cs : Array Value) (d : TypeDesc)
  (hp : tmps.getD p undef = .pointer (some ⟨b, 0, none⟩)) (hc : BlockIs w b cs t) (hu : P.underlying ty = some d) (hd : d.isRow = true) (hi : (P.info? ty).map (·.size) = some cs.size) :
  (results fn tmps).run P w = .ok (.tuple #[.agg cs, tmps.getD u undef]) w := by
 have hl := run_loadVar_mid (P := P) w b 0 ty cs.toList d (fun j v hv => by rw [Nat.zero_add]; exact hc.cell (by simpa using hv)) hu hd (by simpa using hi)
 rw [results_cell_tmp h, hp]
 simp only [asAddr, Sem.run_pure, Result.andThen_ok, hl]
theorem wl_rec {ops : Array Oper} {rest : List Oper} {op : Oper} {a : Act} {W : World} {Q : Exit → Act → World → Prop} (y : Operand) (cs : Array Value) (b : Nat) (t : TypeId) (ho : op.op = .load 70 y) (hw : Region.wanted op (yielded ops a.tmps) = true)
  (hx : a.eval y = .pointer (some ⟨b, 0, none⟩)) (hc : BlockIs W b cs t) (hs : 4 = cs.size) (h : wpList Tryz.prog ops Q rest (a.put op.dst (.agg cs)) W) : wpList Tryz.prog ops Q (op :: rest) a W :=
 BigFrame.wpList_want hw fun K hK => wp_load_row 70 y ho b hx t cs (0, 0) _ hc Tryz.underlying70 rfl (by rw [← hs]; exact rec_info) (hK _ _ h)
theorem ws_rec {ops : Array Oper} {rest : List Oper} {op : Oper} {a : Act} {W : World} {Q : Exit → Act → World → Prop} (x y : Operand) (cs : Array Value) (b : Nat) (old : Array Value) (t : TypeId) (ho : op.op = .store 70 x y) (hw : Region.wanted op (yielded ops a.tmps) = true)
  (hx : a.eval x = .pointer (some ⟨b, 0, none⟩)) (hy : a.eval y = .agg cs) (hc : BlockIs W b old t) (hs : 4 = cs.size) (ho2 : old.size = cs.size) (h1 : cs.all (·.oneCell') = true)
  (h : wpList Tryz.prog ops Q rest (a.put op.dst undef) (W.setRow b cs)) : wpList Tryz.prog ops Q (op :: rest) a W :=
 BigFrame.wpList_want hw fun K hK => wp_store_row 70 x y ho b cs hx hy t old hc (by rw [← hs]; exact rec_info) ho2 h1 (hK _ _ h)
theorem wp_make_full {P : Program} {w : World} {o : Oper} {a : Act} {K : Act → World → Prop} {Q : Exit → Act → World → Prop} (l c : Operand) (t : TypeId) (hop : o.op = Op.makeSlice t l c)
  (base : Nat) (e : TypeId) (i : TypeInfo) (z : Value) (size : Nat) (h1 : P.underlying t = some (.slice e)) (h2 : P.info? e = some i) (h3 : i.zero = some z) (h4 : i.size = size)
  (kl kc : IntKind) (n : Nat) (hl : a.eval l = .int kl (n : Int)) (hc : a.eval c = .int kc (n : Int)) (b2 : i.bytes * n ≤ 281474976710656) (b3 : n ≤ maxLen) (b4 : base ≤ w.heap.size)
  (hK : ∀ w', w'.ownsRow base e size (.slice (some ⟨w.heap.size, 0, none⟩) n n) n (madeCells z.cells (n * size)).toList → w.grownBy w' none → K (a.put o.dst (.slice (some ⟨w.heap.size, 0, none⟩) n n)) w') : Oper.wp P o a w K Q := by
 obtain ⟨w', hrun, r1, r2⟩ := run_make_full (P := P) w base t e i z size h1 h2 h3 h4 kl kc n b2 b3 b4
 unfold Oper.wp
 simp [execOp, hop, hl, hc, hrun, Result.andThen]
 exact hK w' r1 r2
theorem fread_nil (p : Option Addr) (c : Nat) (w : World) : Calls Tryz.prog 95 #[.slice p 0 c] w fun e w' => e = .returned (.tuple #[.agg #[.int .i64 0, .int .i64 0, .int .i64 0, .slice none 0 0], .int .i64 81]) ∧ Below w.heap.size w w' := by
 go_enter Tryz.func95, Tryz.ntmps95
 go_wp2_with fail
 refine (wgetrow_nil _ _ _ _).mono ?_; rintro e w' ⟨rfl, rfl⟩
 go_wp2_with fail
 refine bodyPost_ret (v := .tuple #[.agg #[.int .i64 0, .int .i64 0, .int .i64 0, .slice none 0 0], .int .i64 81]) (by simp [results, Tryz.results95, go_sem]) rfl ⟨rfl, (Below.refl _ _).alloc (Nat.le_refl _) _⟩
set_option maxRecDepth 100000 in
theorem fread_ok (g k m : Int) (l : List Nat) (v : Value) (w : World) (ht : Tab w) (hv : Rd w v (recB g k m l).length (bts (recB g k m l))) (hb : ∀ x ∈ l, x < 256) (hl : l.length ≤ 4096) (hl0 : 0 < l.length) (g1 : 1 ≤ g) (g2 : g ≤ 1099511627776) (hk : I64 k) (m1 : 0 ≤ m) (m2 : m ≤ 5) :
  Calls Tryz.prog 95 #[v] w fun e w' => ∃ v', e = .returned (.tuple #[.agg #[.int .i64 g, .int .i64 k, .int .i64 m, v'], .int .i64 0]) ∧ w'.ownsRow w.heap.size 5 1 v' l.length (bts l) ∧ Below w.heap.size w w' := by
 obtain ⟨i0, hi0, hz0, hz1, hz2⟩ := info_hid byte_info
 have hI : ∀ x ∈ [g, k, m], I64 x := by
  intro x hx; simp at hx
  rcases hx with e | e | e <;> subst e
  ·exact ⟨by omega, by omega⟩
  ·exact hk
  ·exact ⟨by omega, by omega⟩
 obtain ⟨R, hR⟩ : ∃ R, rowB [g, k, m] = R := ⟨_, rfl⟩
 obtain ⟨P, hP⟩ : ∃ P, putN (l.length : Int) = P := ⟨_, rfl⟩
 have hRl := rowB_len [g, k, m]
 have hPl := putN_len (l.length : Int)
 have hXb : ∀ x ∈ R ++ (P ++ l), x < 256 := by
  intro x hx
  rcases List.mem_append.1 hx with hx | hx
  ·rw [← hR] at hx; exact rowB_byte hI (by simp) x hx
  ·rcases List.mem_append.1 hx with hx | hx
   ·rw [← hP] at hx; exact putN_byte (by omega) (by omega) x hx
   ·exact hb x hx
 have hrec : recB g k m l = sealV (R ++ (P ++ l)) := by unfold recB; rw [hR, hP]
 rw [hrec] at hv
 have hsl : (sealV (R ++ (P ++ l))).length = R.length + P.length + l.length + 2 := by unfold sealV; simp only [List.length_append, List.length_cons, List.length_nil]; omega
 have hO := fun W (h : Below w.heap.size w W) => copen_ok (R ++ (P ++ l)) v W (ht.below h) (hv.below h) hXb (by simp only [List.length_append]; simp at hRl; rw [hR] at hRl; rw [hP] at hPl; omega) (by simp only [List.length_append]; omega)
 obtain ⟨b, o, cp, rfl, hcp, hr⟩ := hv.some (by rw [hsl]; omega)
 have hr' : w.rangeAt b o (bts R ++ (bts P ++ (bts l ++ [.int .u8 ((moreV 65535 (R ++ (P ++ l)) / 256 : Nat) : Int), .int .u8 ((moreV 65535 (R ++ (P ++ l)) % 256 : Nat) : Int)]))) := by
  have e : bts (sealV (R ++ (P ++ l))) = bts R ++ (bts P ++ (bts l ++ [.int .u8 ((moreV 65535 (R ++ (P ++ l)) / 256 : Nat) : Int), .int .u8 ((moreV 65535 (R ++ (P ++ l)) % 256 : Nat) : Int)])) := by
   unfold sealV; rw [bts_app, bts_app, bts_app]; simp only [List.append_assoc]; rfl
  rw [← e]; exact hr
 have hr0 := range_pre hr'
 have hr1 := range_pre (range_post hr')
 have hr2 := range_pre (range_post (range_post hr'))
 rw [bts_len] at hr1 hr2
 rw [bts_len] at hr2
 rw [hsl] at hcp hO ⊢
 have hRl : R.length ≤ 40 := by rw [hR] at hRl; simp at hRl; omega
 have hPl : P.length ≤ 10 := by rw [hP] at hPl; omega
 have hG := fun W (h : Below w.heap.size w W) => wgetrow_ok [g, k, m] b o (R.length + P.length + l.length + 2) 0 cp 3 W hI (by simp) (by rw [hR]; omega) hcp (by omega) (by rw [hR, Nat.add_zero]; exact range_keep hr0 h)
 have hG2 := fun W (h : Below w.heap.size w W) => wget_ok (l.length : Int) b o (R.length + P.length + l.length + 2) R.length cp W ⟨by omega, by omega⟩ (by rw [hP]; omega) hcp (by omega) (by rw [hP]; exact range_keep hr1 h)
 rw [hR] at hG
 rw [hP] at hG2
 have hlb := bts_len l
 have hob := bts_one l
 have HL := Lib.hid (show ∀ W, Below w.heap.size w W → W.rangeAt b (o + R.length + P.length) (bts l) from fun W h => range_keep hr2 h)
 have HG := Lib.hid hG
 have HG2 := Lib.hid hG2
 have HO := Lib.hid hO
 clear hG hG2 hO hr hr' hr0 hr1 hr2 hsl hrec hXb hR hP hv ht hI
 generalize hq : R.length = q at *
 generalize hp : P.length = p at *
 generalize hn : l.length = n at *
 have hcn : ((q + p + n + 2 : Nat) : Int) ≤ cp := by omega
 have HB0 := (Below.refl w.heap.size w).alloc (Nat.le_refl _) (.cells #[.int .i64 0, .int .i64 0, .int .i64 0, .slice none 0 0] 70)
 have bz := BlockIs.new w #[.int .i64 0, .int .i64 0, .int .i64 0, .slice none 0 0] 70
 have hGr := HG.out _ HB0
 clear hb
 go_enter Tryz.func95, Tryz.ntmps95
 go_wp2_with fail
 refine hGr.mono ?_; rintro e w1 ⟨v1, rfl, h1, hb1⟩
 have HB1 := HB0.trans (hb1.mono HB0.size)
 have bz1 := bz.kept hb1
 have h1 : w1.ownsRow _ 3 1 v1 3 _ := h1
 obtain ⟨g1b, c1, rfl, hg1b, hc1⟩ := h1.form (by omega)
 have hz0 : (w.alloc (.cells #[.int .i64 0, .int .i64 0, .int .i64 0, .slice none 0 0] 70)).heap.size = w.heap.size + 1 := by simp
 have hgl := h1.lt g1b rfl
 rw [hz0] at hgl
 have x0 : w1.cell? ⟨g1b, 0, none⟩ = some (.int .i64 g) := h1.cells (g := g1b) rfl 0 _ rfl
 have x1 : w1.cell? ⟨g1b, 1, none⟩ = some (.int .i64 k) := h1.cells (g := g1b) rfl 1 _ rfl
 have x2 : w1.cell? ⟨g1b, 2, none⟩ = some (.int .i64 m) := h1.cells (g := g1b) rfl 2 _ rfl
 have hK : ∀ W', Below w1.heap.size w1 W' → W'.cell? ⟨g1b, 0, none⟩ = some (.int .i64 g) ∧ W'.cell? ⟨g1b, 2, none⟩ = some (.int .i64 m) ∧ Below w1.heap.size w1 W' := fun W' h => by
  exact ⟨(h.cell (p := ⟨g1b, 0, none⟩) hgl.2).trans x0, (h.cell (p := ⟨g1b, 2, none⟩) hgl.2).trans x2, h⟩
 have HK := Lib.hid hK
 clear hK hGr hb1 h1 HB0 bz hz0
 go_wp2_with fail
 go_region_held3 (fun w' => w'.cell? ⟨g1b, 0, none⟩ = some (.int .i64 g) ∧ w'.cell? ⟨g1b, 2, none⟩ = some (.int .i64 m) ∧ Below w1.heap.size w1 w')
  (first
   | (exact HK.out _ (Below.refl _ _).drew)
   | assumption
   | (exact HK.out _ (keepB (And.right (And.right (by assumption))) hb2 (Nat.le_refl _)))
   | go_keep)
  (first
   | (go_at_call 148; refine (fmay_ok g 0 m none 0 0 _ g1 g2 m1 m2 (by omega)).mono ?_; rintro e w2 ⟨rfl, hb2⟩))
 have hB2 := (show Below w1.heap.size w1 w2 from by exact (And.right (And.right (by assumption))))
 have HB2 := HB1.trans (hB2.mono HB1.size)
 have bz2 := bz1.kept hB2
 have hG2 := HG2.out _ HB2
 have hq1 : ((q : Nat) : Int) = q := rfl
 have XH := Lib.hid (HK.out _ hB2)
 have hx1 := (hB2.cell (p := ⟨g1b, 1, none⟩) hgl.2).trans x1
 have X1 := Lib.hid hx1
 clear hq1 x0 x1 x2 hx1 HK HG2
 have HM := Lib.hid (show Below w1.heap.size w1 w2 from hB2)
 clear hB2
 have hn1 : decide ((n : Int) < 0) = false := by simp
 have hn2 : decide ((4096 : Int) < n) = false := by simp; omega
 go_wp2_with fail
 refine hG2.mono ?_; rintro e w' ⟨rfl, rfl⟩
 go_wp2_with fail
 refine (HO.out w2 HB2).mono ?_; rintro e w3 ⟨v3, rfl, h3, hb3⟩
 have HB3 := HB2.trans (hb3.mono HB2.size)
 have bz3 := (bz1.kept HM.out).kept hb3
 have hc3 : ∀ (i : Nat) (x : Value), w2.cell? ⟨g1b, i, none⟩ = some x → w3.cell? ⟨g1b, i, none⟩ = some x := fun i x h => (hb3.cell (p := ⟨g1b, i, none⟩) (by have := HM.out.size; show g1b < _; omega)).trans h
 have y0 := hc3 0 _ XH.out.1
 have y1 := hc3 1 _ X1.out
 have y2 := hc3 2 _ XH.out.2.1
 have hW3s : w.heap.size + 1 ≤ w3.heap.size := bz3.lt
 have hgl3 : g1b < w3.heap.size := by have := HM.out.size; have := hb3.size; omega
 clear hc3 h3 hb3 HO X1 XH
 go_upto_region 19 with fail
 have hS : ∀ W', Below w3.heap.size w3 W' → W'.cell? ⟨g1b, 0, none⟩ = some (.int .i64 g) ∧ W'.cell? ⟨g1b, 1, none⟩ = some (.int .i64 k) ∧ W'.cell? ⟨g1b, 2, none⟩ = some (.int .i64 m) ∧ Below w3.heap.size w3 W' := fun W' h =>
  ⟨(h.cell (p := ⟨g1b, 0, none⟩) hgl3).trans y0, (h.cell (p := ⟨g1b, 1, none⟩) hgl3).trans y1, (h.cell (p := ⟨g1b, 2, none⟩) hgl3).trans y2, h⟩
 have HS := Lib.hid hS
 have B3 := Lib.hid HB3
 have BZ3 := Lib.hid bz3
 clear hS HB3 bz3 y0 y1 y2
 go_cut [11] (fun x wc => ∃ bm br : Nat, x = .pointer (some ⟨br, 0, none⟩) ∧ BlockIs wc br #[.int .i64 g, .int .i64 k, .int .i64 m, .slice (some ⟨bm, 0, none⟩) n n] 70 ∧ wc.ownsRow w.heap.size 5 1 (.slice (some ⟨bm, 0, none⟩) n n) n (madeCells #[.int .u8 0] (n * 1)).toList ∧ bm ≠ br ∧ w.heap.size < br ∧ w.heap.size < bm ∧ BlockIs wc w.heap.size #[.int .i64 0, .int .i64 0, .int .i64 0, .slice none 0 0] 70 ∧ Below w.heap.size w wc)
 case first =>
  refine wp_region_held_drew (S := fun w' => w'.cell? ⟨g1b, 0, none⟩ = some (.int .i64 g) ∧ w'.cell? ⟨g1b, 1, none⟩ = some (.int .i64 k) ∧ w'.cell? ⟨g1b, 2, none⟩ = some (.int .i64 m) ∧ Below w3.heap.size w3 w') (by kernel_rfl) (HS.out _ (Below.refl _ _).drew) (fun hHeld => ?_)
  refine tkH 0 ?_
  try simp only [pt]
  refine tkH 1 ?_
  try simp only [pt]
  refine tkH 2 ?_
  try simp only [pt]
  refine tkH 3 ?_
  try simp only [pt]
  refine tkH 4 ?_
  try simp only [pt]
  refine tkH 5 ?_
  try simp only [pt]
  refine tkH 6 ?_
  try simp only [pt]
  refine tkH 7 ?_
  try simp only [pt]
  refine tkH 8 ?_
  try simp only [pt]
  refine tkH 9 ?_
  try simp only [pt]
  refine rdy [10, 12] ?_
  refine' arC rfl (fun KK hKK => ?xs10) (arC rfl (fun KK hKK => ?xs12) AllReadyH.nil)
  case xs10 =>
   refine wp_make_full (.tmp 90) (.tmp 90) 52 rfl w.heap.size 5 i0 (.int .u8 0) 1 Tryz.underlying52 (hi0 ()) hz0 hz1 .i64 .i64 n rfl rfl (by rw [hz2]; omega) (by unfold maxLen; omega) B3.out.drew.size ?_
   intro w5 h5 hg5
   refine hKK.out _ _ (HS.out _ ((Below.refl w3.heap.size w3).drew.grown hg5 (Nat.le_refl _) (fun k e => by cases e))) (fun _ => ?_)
   clear hKK KK
   try simp only [pt]
   refine tkH 11 ?_
   try simp only [pt]
   refine rdy [12] ?_
   refine' arC rfl (fun KK hKK => ?as12) AllReadyH.nil
   go_simp
   refine hKK.out _ _ (HS.out _ (((Below.refl w3.heap.size w3).drew.grown hg5 (Nat.le_refl _) (fun k e => by cases e)).alloc (by have := hg5.size; exact this) _)) (fun _ => ?_)
   clear hKK KK
   try simp only [pt]
   have hs5 := hg5.size
   have hd3 : w3.drew.heap.size = w3.heap.size := rfl
   have HB5 := (Below.refl w3.heap.size w3).drew.grown hg5 (Nat.le_refl _) (fun k e => by cases e)
   have HB7 := Lib.hid (HB5.alloc (by omega) (.cells #[.int .i64 0, .int .i64 0, .int .i64 0, .slice none 0 0] 70))
   have HB6 := Lib.hid ((B3.out.trans (HB5.mono (by omega))).alloc (by omega) (.cells #[.int .i64 0, .int .i64 0, .int .i64 0, .slice none 0 0] 70))
   have HBR := Lib.hid (BlockIs.new w5 #[.int .i64 0, .int .i64 0, .int .i64 0, .slice none 0 0] 70)
   have HOW := Lib.hid (h5.alloc (.cells #[.int .i64 0, .int .i64 0, .int .i64 0, .slice none 0 0] 70))
   have HBZ := Lib.hid ((BZ3.out.below HB5 (by omega)).alloc (.cells #[.int .i64 0, .int .i64 0, .int .i64 0, .slice none 0 0] 70))
   have hb5 : w3.heap.size < w5.heap.size := (h5.lt _ rfl).2
   have hneq : ¬ (w3.heap.size = w5.heap.size) := by omega
   refine rdy [13] ?_
   refine' arC rfl (fun KK hKK => ?as13) AllReadyH.nil
   refine wp_store_row 70 (.tmp 11) (.tmp 92) rfl w5.heap.size #[.int .i64 g, .int .i64 k, .int .i64 m, .slice (some ⟨w3.heap.size, 0, none⟩) n n] rfl rfl 70 #[.int .i64 0, .int .i64 0, .int .i64 0, .slice none 0 0] HBR.out rec_info rfl (by simp [Value.oneCell']) ?_
   refine hKK.out _ _ (HS.out _ (below_setRow HB7.out (by omega) _)) (fun _ => ?_)
   clear hKK KK
   try simp only [pt]
   refine wpAnyH_done (by kernel_rfl) ?_ _
   go_wp2_with fail
   go_meet
   exact ⟨w3.heap.size, w5.heap.size, rfl, HBR.out.row _, (Turn.setRow (T := fun k => k = w5.heap.size) (Turn.refl _ _) rfl _).own HOW.out (fun k hk => by cases hk; exact hneq), by omega, by omega, by omega, HBZ.out.rowOther (by omega) _, below_setRow HB6.out (by omega) _⟩
  case xs12 =>
   go_simp
   refine hKK.out _ _ (HS.out _ ((Below.refl w3.heap.size w3).drew.alloc (Nat.le_refl _) _)) (fun _ => ?_)
   clear hKK KK
   try simp only [pt]
   refine rdy [10] ?_
   refine' arC rfl (fun KK hKK => ?bs10) AllReadyH.nil
   refine wp_make_full (.tmp 90) (.tmp 90) 52 rfl (w3.heap.size + 1) 5 i0 (.int .u8 0) 1 Tryz.underlying52 (hi0 ()) hz0 hz1 .i64 .i64 n rfl rfl (by rw [hz2]; omega) (by unfold maxLen; omega) (by simp) ?_
   intro w5 h5 hg5
   refine hKK.out _ _ (HS.out _ (((Below.refl w3.heap.size w3).drew.alloc (Nat.le_refl _) _).grown hg5 (by simp) (fun k e => by cases e))) (fun _ => ?_)
   clear hKK KK
   try simp only [pt]
   refine tkH 11 ?_
   try simp only [pt]
   have hs5 := hg5.size
   have hd3 : (w3.drew.alloc (.cells #[.int .i64 0, .int .i64 0, .int .i64 0, .slice none 0 0] 70)).heap.size = w3.heap.size + 1 := by simp
   have HB5 := ((Below.refl w3.heap.size w3).drew.alloc (Nat.le_refl _) (.cells #[.int .i64 0, .int .i64 0, .int .i64 0, .slice none 0 0] 70)).grown hg5 (by simp) (fun k e => by cases e)
   have HB7 := Lib.hid (HB5.mono (Nat.le_refl _))
   have HB6 := Lib.hid (B3.out.trans (HB5.mono (by omega)))
   have HBR := Lib.hid ((BlockIs.new w3.drew #[.int .i64 0, .int .i64 0, .int .i64 0, .slice none 0 0] 70).below (below_grown hg5) (by simp))
   have HOW := Lib.hid (show w5.ownsRow (w3.heap.size + 1) 5 1 (.slice (some ⟨w3.heap.size + 1, 0, none⟩) n n) n (madeCells #[.int .u8 0] (n * 1)).toList by have hx := h5; rw [show (w3.alloc (.cells #[.int .i64 0, .int .i64 0, .int .i64 0, .slice none 0 0] 70)).drew.heap.size = w3.heap.size + 1 from (by show (w3.alloc _).heap.size = _; simp)] at hx; exact hx)
   have HBZ := Lib.hid (BZ3.out.below HB5 (by omega))
   have hb5 : w3.heap.size + 1 < w5.heap.size := (HOW.out.lt _ rfl).2
   have hneq : ¬ (w3.heap.size + 1 = w3.heap.size) := by omega
   refine rdy [13] ?_
   refine' arC rfl (fun KK hKK => ?bs13) AllReadyH.nil
   refine wp_store_row 70 (.tmp 11) (.tmp 92) rfl w3.heap.size #[.int .i64 g, .int .i64 k, .int .i64 m, .slice (some ⟨w3.heap.size + 1, 0, none⟩) n n] rfl rfl 70 #[.int .i64 0, .int .i64 0, .int .i64 0, .slice none 0 0] HBR.out rec_info rfl (by simp [Value.oneCell']) ?_
   refine hKK.out _ _ (HS.out _ (below_setRow HB7.out (by omega) _)) (fun _ => ?_)
   clear hKK KK
   try simp only [pt]
   refine wpAnyH_done (by kernel_rfl) ?_ _
   go_wp2_with fail
   go_meet
   exact ⟨w3.heap.size + 1, w3.heap.size, rfl, HBR.out.row _, ((Turn.setRow (T := fun k => k = w3.heap.size) (Turn.refl _ _) rfl _).own HOW.out (fun k hk => by cases hk; exact hneq)).mono (base' := w.heap.size) (by omega), by omega, by omega, by omega, HBZ.out.rowOther (by omega) _, below_setRow HB6.out (by omega) _⟩
 case rest =>
 obtain ⟨bm, br, rfl, hbr, hown, hne, hltb, hlm, hbz, hbB⟩ := hcut
 have hrl := HL.out _ hbB
 have e3 : wc.cell? ⟨br, 3, none⟩ = some (.slice (some ⟨bm, 0, none⟩) n n) := hbr.cell rfl
 have HBR := Lib.hid hbr
 have HOWN := Lib.hid hown
 have HBZ := Lib.hid hbz
 have HBB := Lib.hid hbB
 have HRL := Lib.hid hrl
 have s1 : ((q : Int) + p) ≤ ((q : Int) + p + n + 2) := by omega
 have s2 : (0 : Int) ≤ (q : Int) + p := by omega
 have s3 : ((q : Int) + p) < cp := by omega
 have s4 : ((cp : Int) = (q : Int) + p) = False := by simp; omega
 have s5 : (((q : Int) + p) = cp) = False := by simp; omega
 have s6 : (cp = q + p) = False := by simp; omega
 have s7 : ((q : Int) + p) ≤ cp := by omega
 have s8 : (cp = ((q : Int) + p).toNat) = False := by simp; omega
 clear hbr hown hbz hbB hrl HS B3 BZ3 HL
 go_upto_region 20 with fail
 go_still_tail 5, (by kernel_rfl)
 change wpList _ _ _ _ _ wc.drew
 obtain ⟨w6, hw6⟩ : ∃ w6, wc.drew = w6 := ⟨_, rfl⟩
 have hbr6 : BlockIs w6 br #[.int .i64 g, .int .i64 k, .int .i64 m, .slice (some ⟨bm, 0, none⟩) n n] 70 := by rw [← hw6]; exact HBR.out
 have hbz6 : BlockIs w6 w.heap.size #[.int .i64 0, .int .i64 0, .int .i64 0, .slice none 0 0] 70 := by rw [← hw6]; exact HBZ.out
 have hbB6 : Below w.heap.size w w6 := by rw [← hw6]; exact HBB.out.drew
 have hrl6 : w6.rangeAt b (o + q + p) (bts l) := by rw [← hw6]; exact HRL.out
 have how6 : w6.ownsRow w.heap.size 5 1 (.slice (some ⟨bm, 0, none⟩) n n) n (madeCells #[.int .u8 0] (n * 1)).toList := by rw [← hw6]; exact HOWN.out
 rw [hw6]
 clear hw6 HBR HBZ HBB HRL HOWN e3
 obtain ⟨hl0', ⟨hbad, _⟩ | ⟨g', cap, cur, he, hge, hcur, _, hcm, hcs, htk⟩⟩ := how6
 ·cases hbad
 cases he
 have hc1 : cur.toList.length = n := by simpa using hcs
 have HSR := Lib.hid (show ∀ j v, (bts l)[j]? = some v → w6.cell? ((⟨b, o + ((q : Int) + p).toNat, none⟩ : Addr).add j) = some v from fun j v hv => by rw [Addr.add_mid, show ((q : Int) + p).toNat = q + p by omega, ← Nat.add_assoc]; exact hrl6 j v hv)
 have HC1 := Lib.hid hc1
 have HCU := Lib.hid hcur
 have HBL := Lib.hid hlb
 have HB6 := Lib.hid hbB6
 have HR6 := Lib.hid hbr6
 have HZ6 := Lib.hid hbz6
 clear hl0' hge hcur hcm hcs htk hc1 hlb hbB6 hbr6 hbz6 hrl6
 have hsz : (Tryz.prog.info? 5).map (·.size) = some 1 := by rw [hi0 ()]; simp [hz1]
 go_wp2_with (with_reducible show wpList _ _ _ _ _ _; (refine wpList_copy_eq rfl (.tmp 94) (.tmp 97) 52 52 rfl 5 Tryz.underlying52 hsz bm n n ⟨b, o + ((q : Int) + p).toNat, none⟩ _ _ rfl rfl cur 5 HCU.out (bts l) (by rw [HBL.out]; simp only [Nat.min_def]; split <;> omega) HSR.out (by rw [HBL.out]; have := HC1.out; rw [Array.length_toList] at this; omega) hob ?_))
 intro w7 hw7
 have hw7 := hw7.out
 have r7 : BlockIs w7 br #[.int .i64 g, .int .i64 k, .int .i64 m, .slice (some ⟨bm, 0, none⟩) n n] 70 := by rw [hw7]; exact HR6.out.rowOther (by omega) _
 have z7 : BlockIs w7 w.heap.size #[.int .i64 0, .int .i64 0, .int .i64 0, .slice none 0 0] 70 := by rw [hw7]; exact HZ6.out.rowOther (by omega) _
 have B7 : Below w.heap.size w w7 := by rw [hw7]; exact below_setRow HB6.out (by omega) _
 have c7 : w7.heap[bm]? = some (.cells (bts l).toArray 5 (0, 0)) := by rw [hw7]; exact setRow_heap w6 bm cur _ _ _ HCU.out
 have z8 := z7.row #[.int .i64 g, .int .i64 k, .int .i64 m, .slice (some ⟨bm, 0, none⟩) n n]
 have B8 := below_setRow B7 (Nat.le_refl w.heap.size) #[.int .i64 g, .int .i64 k, .int .i64 m, .slice (some ⟨bm, 0, none⟩) n n]
 have c8 : (w7.setRow w.heap.size #[.int .i64 g, .int .i64 k, .int .i64 m, .slice (some ⟨bm, 0, none⟩) n n]).heap[bm]? = some (.cells (bts l).toArray 5 (0, 0)) := (setRow_other w7 w.heap.size bm _ (by omega)).trans c7
 have how : (w7.setRow w.heap.size #[.int .i64 g, .int .i64 k, .int .i64 m, .slice (some ⟨bm, 0, none⟩) n n]).ownsRow w.heap.size 5 1 (.slice (some ⟨bm, 0, none⟩) n n) n (bts l) :=
  ⟨by rw [HBL.out]; omega, .inr ⟨bm, n, (bts l).toArray, rfl, by omega, c8, Nat.le_refl _, by unfold maxLen; omega, by simpa using HBL.out, by simp only [List.toList_toArray]; exact List.take_of_length_le (by rw [HBL.out]; omega)⟩⟩
 have R7 := Lib.hid r7
 have Z7 := Lib.hid z7
 have Z8 := Lib.hid z8
 have H8 := Lib.hid how
 have HB8 := Lib.hid B8
 clear r7 z7 z8 how B8 B7 c7 c8 hw7 HCU HSR HC1 HR6 HZ6 HB6
 go_wp2_with (first
  | (with_reducible show wpList _ _ _ _ _ _; refine wl_rec (.tmp 11) #[.int .i64 g, .int .i64 k, .int .i64 m, .slice (some ⟨bm, 0, none⟩) n n] br 70 rfl rfl rfl R7.out rfl ?_)
  | (with_reducible show wpList _ _ _ _ _ _; refine ws_rec (.tmp 2) (.tmp 99) #[.int .i64 g, .int .i64 k, .int .i64 m, .slice (some ⟨bm, 0, none⟩) n n] w.heap.size #[.int .i64 0, .int .i64 0, .int .i64 0, .slice none 0 0] 70 rfl rfl rfl rfl Z7.out rfl rfl (by simp [Value.oneCell']) ?_))
 refine bodyPost_ret (v := .tuple #[.agg #[.int .i64 g, .int .i64 k, .int .i64 m, .slice (some ⟨bm, 0, none⟩) n n], .int .i64 0]) ?_ rfl ⟨_, rfl, H8.out, HB8.out⟩
 refine res_cell_tmp (p := 2) (u := 3) ?_ _ _ w.heap.size 70 #[.int .i64 g, .int .i64 k, .int .i64 m, .slice (some ⟨bm, 0, none⟩) n n] _ ?_ Z8.out Tryz.underlying70 rfl rec_info
 all_goals rfl
end Go.Proofs.YtfnifgppblbjhaaGreatDoor
