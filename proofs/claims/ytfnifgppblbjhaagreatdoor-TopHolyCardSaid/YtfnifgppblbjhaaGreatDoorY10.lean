/- Part of the proof of TopHoly. -/
import Derived.Test.YtfnifgppblbjhaaGreatDoorY01
import Derived.Test.YtfnifgppblbjhaaGreatDoorY02
import Derived.Test.YtfnifgppblbjhaaGreatDoorY06
import Derived.Test.YtfnifgppblbjhaaGreatDoorY08
import Derived.Test.YtfnifgppblbjhaaGreatDoorY09
import Derived.Deep.AppendLies
import Derived.Deep.DeepCutAuto
import Derived.Deep.MidRow
import Derived.Deep.Onto
import Derived.Deep.RegionHeld3
import Derived.Laws.OwnMore
import Derived.Lib.Hide
import Derived.Lib.VarintBits
import Derived.Maps.AppendAt
import Derived.OwnWalk
namespace Go.Proofs.YtfnifgppblbjhaaGreatDoor
set_option maxHeartbeats 8000000
open Go.RowKit
set_option linter.unusedVariables false
set_option linter.unusedSimpArgs false
def tErr (z : Zn) (u : Int) : Int := if zErr z ≠ 0 then zErr z else if u < 576000 ∨ 5258879999 < u then 63 else 0
theorem ztime_any (b s m k d t m' k' d' t' u r : Int) (w : World) (hr : tErr ⟨b, s, m, k, d, t, m', k', d', t'⟩ u = r) :
  Calls Tryz.prog 198 #[.agg #[.int .i64 b, .int .i64 s, .int .i64 m, .int .i64 k, .int .i64 d, .int .i64 t, .int .i64 m', .int .i64 k', .int .i64 d', .int .i64 t'], .int .i64 u] w fun e w' => e = .returned (.int .i64 r) ∧ Below w.heap.size w w' := by
 have HR := Lib.hid hr
 clear hr
 have hA := (Below.refl w.heap.size w).alloc (Nat.le_refl _) (.cells #[.int .i64 b, .int .i64 s, .int .i64 m, .int .i64 k, .int .i64 d, .int .i64 t, .int .i64 m', .int .i64 k', .int .i64 d', .int .i64 t'] 28)
 by_cases c : zErr ⟨b, s, m, k, d, t, m', k', d', t'⟩ = 0
 ·by_cases c2 : u < 576000 ∨ 5258879999 < u
  ·have H := Lib.hid (HR.out.symm.trans (show tErr ⟨b, s, m, k, d, t, m', k', d', t'⟩ u = 63 by unfold tErr; rw [if_neg (by omega), if_pos c2]))
   have hw : (decide (576000 ≤ u) && decide (u ≤ 5258879999)) = false := by simp; omega
   clear c2
   go_enter Tryz.func198, Tryz.ntmps198
   go_wp2_with fail
   refine (zcheck_any _ _ _ _ _ _ _ _ _ _ 0 _ c).mono ?_; rintro e w1 ⟨rfl, hb⟩
   have hB := Lib.hid (hA.trans (hb.mono hA.size))
   clear hb
   go_wp2_with fail
   refine (zwithin_any _ _ _ _).mono ?_; rintro e w' ⟨rfl, rfl⟩
   rw [hw]
   go_wp2
   go_ret
   exact ⟨one H.out.symm, hB.out⟩
  ·have H := Lib.hid (HR.out.symm.trans (show tErr ⟨b, s, m, k, d, t, m', k', d', t'⟩ u = 0 by unfold tErr; rw [if_neg (by omega), if_neg c2]))
   have hw : (decide (576000 ≤ u) && decide (u ≤ 5258879999)) = true := by simp; omega
   clear c2
   go_enter Tryz.func198, Tryz.ntmps198
   go_wp2_with fail
   refine (zcheck_any _ _ _ _ _ _ _ _ _ _ 0 _ c).mono ?_; rintro e w1 ⟨rfl, hb⟩
   have hB := Lib.hid (hA.trans (hb.mono hA.size))
   clear hb
   go_wp2_with fail
   refine (zwithin_any _ _ _ _).mono ?_; rintro e w' ⟨rfl, rfl⟩
   rw [hw]
   go_wp2
   go_ret
   exact ⟨one H.out.symm, hB.out⟩
 ·have H := Lib.hid (HR.out.symm.trans (show tErr ⟨b, s, m, k, d, t, m', k', d', t'⟩ u = zErr ⟨b, s, m, k, d, t, m', k', d', t'⟩ by unfold tErr; rw [if_pos c]))
  generalize hE : zErr ⟨b, s, m, k, d, t, m', k', d', t'⟩ = E at *
  have hne : (E != 0) = true := by simpa using c
  go_enter Tryz.func198, Tryz.ntmps198
  go_wp2_with fail
  refine (zcheck_any _ _ _ _ _ _ _ _ _ _ E _ hE).mono ?_; rintro e w1 ⟨rfl, hb⟩
  have hB := Lib.hid (hA.trans (hb.mono hA.size))
  clear hb
  go_wp2
  go_ret
  exact ⟨one H.out.symm, hB.out⟩
theorem zErr_turns {z : Zn} (h : zErr z = 0) : z.s ≠ 0 → tOk z.m z.k z.d z.t = true ∧ tOk z.m' z.k' z.d' z.t' = true := by
 intro c
 unfold zErr at h
 split at h
 ·cases h
 ·split at h
  ·cases h
  ·split at h
   ·rename_i x; exact ⟨x.1, x.2.1⟩
   ·cases h
theorem zErr_sb {z : Zn} (h : zErr z = 0) : 0 ≤ z.s ∧ z.s ≤ 120 := by
 unfold zErr at h
 split at h
 ·cases h
 ·split at h
  ·cases h
  ·omega
theorem tErr_0 {z : Zn} {u : Int} (h : tErr z u = 0) : zErr z = 0 ∧ 576000 ≤ u ∧ u ≤ 5258879999 := by
 unfold tErr at h
 split at h
 ·contradiction
 ·split at h
  ·cases h
  ·omega
theorem shiftV_cases (z : Zn) (u : Int) : shiftV z u = 0 ∨ (shiftV z u = z.s ∧ z.s ≠ 0) := by
 unfold shiftV
 split
 ·exact .inl rfl
 ·split
  ·exact .inr ⟨rfl, by assumption⟩
  ·exact .inl rfl
theorem shiftV_bd {z : Zn} (h : zErr z = 0) (u : Int) : 0 ≤ shiftV z u ∧ shiftV z u ≤ 120 := by
 have b := zErr_sb h
 rcases shiftV_cases z u with c | ⟨c, _⟩ <;> rw [c] <;> omega
theorem zlocal_ok (b s m k d t m' k' d' t' u q r1 r2 : Int) (w : World) (ht : Tab w) (hr : tErr ⟨b, s, m, k, d, t, m', k', d', t'⟩ u = 0) (hq : shiftV ⟨b, s, m, k, d, t, m', k', d', t'⟩ u = q) (hr1 : (u + b + q) / 1440 = r1) (hr2 : (u + b + q) % 1440 = r2) :
  Calls Tryz.prog 145 #[.agg #[.int .i64 b, .int .i64 s, .int .i64 m, .int .i64 k, .int .i64 d, .int .i64 t, .int .i64 m', .int .i64 k', .int .i64 d', .int .i64 t'], .int .i64 u] w fun e w' => e = .returned (.tuple #[.int .i64 r1, .int .i64 r2, .int .i64 0]) ∧ Below w.heap.size w w' := by
 obtain ⟨hz, u1, u2⟩ := tErr_0 hr
 have zt := zErr_turns hz
 obtain ⟨hb1, hb2⟩ := zErr_b hz
 have qb := shiftV_bd hz u
 rw [hq] at qb
 simp only at zt hb1 hb2
 have R1 := Lib.hid hr1
 have R2 := Lib.hid hr2
 clear hr1 hr2
 have hA := (Below.refl w.heap.size w).alloc (Nat.le_refl _) (.cells #[.int .i64 b, .int .i64 s, .int .i64 m, .int .i64 k, .int .i64 d, .int .i64 t, .int .i64 m', .int .i64 k', .int .i64 d', .int .i64 t'] 28)
 have kz := BlockIs.new w #[.int .i64 b, .int .i64 s, .int .i64 m, .int .i64 k, .int .i64 d, .int .i64 t, .int .i64 m', .int .i64 k', .int .i64 d', .int .i64 t'] 28
 have ht1 := ht.below hA
 go_enter Tryz.func145, Tryz.ntmps145
 go_wp2_with fail
 refine (ztime_any _ _ _ _ _ _ _ _ _ _ _ 0 _ hr).mono ?_; rintro e w1 ⟨rfl, hb⟩
 have kz1 := kz.kept hb
 have ht2 := ht1.below hb
 have hB := hA.trans (hb.mono hA.size)
 clear hb kz
 have z0 : w1.cell? ⟨w.heap.size, 0, none⟩ = some (.int .i64 b) := kz1.cell rfl
 have z1 : w1.cell? ⟨w.heap.size, 1, none⟩ = some (.int .i64 s) := kz1.cell rfl
 have z2 : w1.cell? ⟨w.heap.size, 2, none⟩ = some (.int .i64 m) := kz1.cell rfl
 have z3 : w1.cell? ⟨w.heap.size, 3, none⟩ = some (.int .i64 k) := kz1.cell rfl
 have z4 : w1.cell? ⟨w.heap.size, 4, none⟩ = some (.int .i64 d) := kz1.cell rfl
 have z5 : w1.cell? ⟨w.heap.size, 5, none⟩ = some (.int .i64 t) := kz1.cell rfl
 have z6 : w1.cell? ⟨w.heap.size, 6, none⟩ = some (.int .i64 m') := kz1.cell rfl
 have z7 : w1.cell? ⟨w.heap.size, 7, none⟩ = some (.int .i64 k') := kz1.cell rfl
 have z8 : w1.cell? ⟨w.heap.size, 8, none⟩ = some (.int .i64 d') := kz1.cell rfl
 have z9 : w1.cell? ⟨w.heap.size, 9, none⟩ = some (.int .i64 t') := kz1.cell rfl
 have HT := Lib.hid (show ∀ W', Below w1.heap.size w1 W' → Tab W' from fun W' h => ht2.below h)
 have HB := Lib.hid hB
 have hQ := Lib.hid hq
 clear hB ht2 kz1 hA ht1 ht hq
 go_wp2_with fail
 go_region_held3 (fun w' => w'.cell? ⟨w.heap.size, 0, none⟩ = some (.int .i64 b) ∧ w'.cell? ⟨w.heap.size, 1, none⟩ = some (.int .i64 s) ∧ w'.cell? ⟨w.heap.size, 2, none⟩ = some (.int .i64 m) ∧ w'.cell? ⟨w.heap.size, 3, none⟩ = some (.int .i64 k) ∧ w'.cell? ⟨w.heap.size, 4, none⟩ = some (.int .i64 d) ∧ w'.cell? ⟨w.heap.size, 5, none⟩ = some (.int .i64 t) ∧ w'.cell? ⟨w.heap.size, 6, none⟩ = some (.int .i64 m') ∧ w'.cell? ⟨w.heap.size, 7, none⟩ = some (.int .i64 k') ∧ w'.cell? ⟨w.heap.size, 8, none⟩ = some (.int .i64 d') ∧ w'.cell? ⟨w.heap.size, 9, none⟩ = some (.int .i64 t') ∧ w'.cell? ⟨w.heap.size, 0, none⟩ = some (.int .i64 b) ∧ Below w1.heap.size w1 w')
  (first
   | (exact ⟨z0, z1, z2, z3, z4, z5, z6, z7, z8, z9, z0, (Below.refl _ _).drew⟩)
   | assumption
   | (refine keepZ (by assumption) hb3 (Nat.le_refl _))
   | go_keep)
  (first
   | (go_at_call 199; refine (zshift_ok b s m k d t m' k' d' t' u q _ (by exact HT.out _ (belowZ (by assumption))) ⟨by omega, by omega⟩ hz hb1 hb2 (fun c => (zt c).1) (fun c => (zt c).2) hQ.out).mono ?_; rintro e w3 ⟨rfl, hb3⟩))
 have hh : Below w1.heap.size w1 w3 := by exact belowZ (by assumption)
 have hB3 := Lib.hid (HB.out.trans (hh.mono HB.out.size))
 clear hh
 go_wp2
 go_ret3
 exact ⟨by rw [← R1.out, ← R2.out]; rfl, hB3.out⟩
end Go.Proofs.YtfnifgppblbjhaaGreatDoor
namespace Go.Proofs.YtfnifgppblbjhaaGreatDoor
set_option maxHeartbeats 8000000
open Go Go.RowKit
theorem info_hid {P : Program} {e : TypeId} {z : Value} {size bytes : Nat} (h : (P.info? e).map (fun i => (i.zero, i.size, i.bytes)) = some (some z, size, bytes)) :
  ∃ i, (∀ _ : Unit, P.info? e = some i) ∧ i.zero = some z ∧ i.size = size ∧ i.bytes = bytes := by
 obtain ⟨i, hi, h⟩ := info_parts h
 exact ⟨i, fun _ => hi, h⟩
end Go.Proofs.YtfnifgppblbjhaaGreatDoor
namespace Go.Proofs.YtfnifgppblbjhaaGreatDoor
set_option maxHeartbeats 8000000
open Go Go.RowKit
set_option linter.unusedVariables false
set_option linter.unusedSimpArgs false
def DayOk (n u : Int) : Prop := 401 ≤ n ∧ n ≤ 3651998 ∧ 0 ≤ u ∧ u ≤ 1439
instance (n u : Int) : Decidable (DayOk n u) := by unfold DayOk; exact inferInstance
theorem zinst_plain (b s m k d t m' k' d' t' n u T : Int) (w : World) (ht : Tab w) (hz : zErr ⟨b, s, m, k, d, t, m', k', d', t'⟩ = 0) (hd : DayOk n u) (hT : n * 1440 + u - b = T) (hs : s = 0) (hq2 : shiftV ⟨b, s, m, k, d, t, m', k', d', t'⟩ T = 0) :
  Calls Tryz.prog 327 #[.agg #[.int .i64 b, .int .i64 s, .int .i64 m, .int .i64 k, .int .i64 d, .int .i64 t, .int .i64 m', .int .i64 k', .int .i64 d', .int .i64 t'], .int .i64 n, .int .i64 u] w fun e w' => ∃ out, e = .returned (.tuple #[out, .int .i64 0]) ∧ w'.ownsRow (w.heap.size + 1) 3 1 out 1 [.int .i64 T] ∧ Below w.heap.size w w' := by
 obtain ⟨i0, hi, hz0, hz1, hz2⟩ := info_hid int_info
 have zt := zErr_turns hz
 obtain ⟨hb1, hb2⟩ := zErr_b hz
 have hsb := zErr_sb hz
 simp only at zt hb1 hb2 hsb
 obtain ⟨d1, d2, d3, d4⟩ := hd
 have e1 := Lib.hid (show (decide (401 ≤ n) && decide (n ≤ 3651998)) = true by simp; omega)
 have e2 := Lib.hid (show (decide (0 ≤ u) && decide (u ≤ 1439)) = true by simp; omega)
 have t1 : 576000 ≤ T := by omega
 have t2 : T ≤ 5258879999 := by omega
 have t3 : 560000 ≤ T - s := by omega
 have wT := Lib.hid hT
 have hA := (Below.refl w.heap.size w).alloc (Nat.le_refl _) (.cells #[.int .i64 b, .int .i64 s, .int .i64 m, .int .i64 k, .int .i64 d, .int .i64 t, .int .i64 m', .int .i64 k', .int .i64 d', .int .i64 t'] 28)
 have kz := BlockIs.new w #[.int .i64 b, .int .i64 s, .int .i64 m, .int .i64 k, .int .i64 d, .int .i64 t, .int .i64 m', .int .i64 k', .int .i64 d', .int .i64 t'] 28
 have ht1 := ht.below hA
 have hs0 : decide (0 < s) = false := by simp; omega
 clear hs
 go_enter Tryz.func327, Tryz.ntmps327
 go_wp2_with fail
 refine (zcheck_any _ _ _ _ _ _ _ _ _ _ 0 _ hz).mono ?_; rintro e w1 ⟨rfl, hb⟩
 have kz1 := kz.kept hb
 have ht2 := ht1.below hb
 have hB := hA.trans (hb.mono hA.size)
 have hlt := kz1.lt
 clear hb kz hA ht1
 have z0 : w1.cell? ⟨w.heap.size, 0, none⟩ = some (.int .i64 b) := kz1.cell rfl
 have z1 : w1.cell? ⟨w.heap.size, 1, none⟩ = some (.int .i64 s) := kz1.cell rfl
 have z2 : w1.cell? ⟨w.heap.size, 2, none⟩ = some (.int .i64 m) := kz1.cell rfl
 have z3 : w1.cell? ⟨w.heap.size, 3, none⟩ = some (.int .i64 k) := kz1.cell rfl
 have z4 : w1.cell? ⟨w.heap.size, 4, none⟩ = some (.int .i64 d) := kz1.cell rfl
 have z5 : w1.cell? ⟨w.heap.size, 5, none⟩ = some (.int .i64 t) := kz1.cell rfl
 have z6 : w1.cell? ⟨w.heap.size, 6, none⟩ = some (.int .i64 m') := kz1.cell rfl
 have z7 : w1.cell? ⟨w.heap.size, 7, none⟩ = some (.int .i64 k') := kz1.cell rfl
 have z8 : w1.cell? ⟨w.heap.size, 8, none⟩ = some (.int .i64 d') := kz1.cell rfl
 have z9 : w1.cell? ⟨w.heap.size, 9, none⟩ = some (.int .i64 t') := kz1.cell rfl
 go_wp2_with fail
 refine (zwithin_any _ _ _ _).mono ?_; rintro e w' ⟨rfl, rfl⟩
 rw [e1.out]
 go_wp2_with fail
 refine (zwithin_any _ _ _ _).mono ?_; rintro e w' ⟨rfl, rfl⟩
 rw [e2.out]
 go_wp2_with fail
 refine (zshift_ok b s m k d t m' k' d' t' _ _ _ ht2 (by unfold Tm; first | omega | (rw [hT]; omega)) hz hb1 hb2 (fun c => (zt c).1) (fun c => (zt c).2) hq2).mono ?_; rintro e w4 ⟨rfl, hb⟩
 have kz4 := kz1.kept hb
 have hB4 := hB.trans (hb.mono hB.size)
 have hlt4 := kz4.lt
 clear hb
 go_wp2_with (first | (at_builtin; refine wpList_append_lies _ rfl (.tmp 54) (.tmp 56) 22 rfl (w.heap.size + 1) 3 i0 (.int .i64 0) 1 8 Tryz.underlying22 (hi ()) hz0 hz1 hz2 rfl (by decide) _ 0 _ rfl (World.ownsRow_nil _ _ _ _) ⟨w4.heap.size, 0, none⟩ 1 1 [.int .i64 T] rfl rfl (cell_one_new _ _ _) (by intro u hu; simp at hu; subst hu; rfl) (by omega) (by unfold maxLen; omega) (by omega) (by simp; omega) _ rfl ?_; intro g2 capg2 w5 k2 k3 k4 k5))
 go_ret2
 refine ⟨_, rfl, by simpa using k2, ?_⟩
 exact (hB4.alloc hB4.size _).grown k3 (by simp; omega) (fun k e => by cases e)
end Go.Proofs.YtfnifgppblbjhaaGreatDoor
namespace Go.Proofs.YtfnifgppblbjhaaGreatDoor
set_option maxHeartbeats 8000000
open Go Go.RowKit
set_option linter.unusedVariables false
theorem flat_le (l : List Int) : (l.flatMap putN).length ≤ 10 * l.length := by
 induction l with
 | nil => simp
 | cons x l ih => have := (putN_len x).2; simp [List.flatMap_cons] at *; omega
theorem rowB_len (l : List Int) : 1 ≤ (rowB l).length ∧ (rowB l).length ≤ 10 + 10 * l.length := by
 have h1 := putN_len (l.length : Int)
 have h2 := flat_le l
 simp [rowB] at *; omega
theorem flat_byte {l : List Int} (h : ∀ x ∈ l, I64 x) : ∀ y ∈ l.flatMap putN, y < 256 := by
 intro y hy
 obtain ⟨x, hx, hy⟩ := List.mem_flatMap.1 hy
 exact putN_byte (h x hx).1 (h x hx).2 y hy
theorem rowB_byte {l : List Int} (h : ∀ x ∈ l, I64 x) (hl : l.length < 1000000) : ∀ y ∈ rowB l, y < 256 := by
 intro y hy
 rcases List.mem_append.1 hy with hy | hy
 ·exact putN_byte (by omega) (by omega) y hy
 ·exact flat_byte h y hy
theorem sunAt_in {f : Nat → Int} {n : Int} (hi : SunIn f) (h1 : 1 ≤ n) (h2 : n ≤ 3652059) : 900 ≤ sunAt f n ∧ sunAt f n ≤ 1320 := by
 obtain ⟨my, mn⟩ := of_may h1 h2
 obtain ⟨y1, y2, m1, m2, _⟩ := may_in my
 have dm := dim_ok (okM_of my)
 have db := dim_bd (yOf n) (mOf n)
 obtain ⟨d1, d2⟩ := my
 unfold sunAt
 have i1 := hi (mOf n - 1).toNat (by omega)
 have i2 := hi ((mOf n).toNat % 12) (Nat.mod_lt _ (by omega))
 generalize f (mOf n - 1).toNat = A at *
 generalize f ((mOf n).toNat % 12) = B at *
 generalize hM : dim (yOf n) (mOf n) = M at *
 generalize hD : dOf n - 1 = D at *
 have hD0 : 0 ≤ D := by omega
 have hD1 : D ≤ M := by omega
 have hM0 : 0 < M := by omega
 by_cases c : A ≤ B
 ·have p0 : 0 ≤ (B - A) * D := Int.mul_nonneg (by omega) hD0
  have p1 : (B - A) * D ≤ (B - A) * M := Int.mul_le_mul_of_nonneg_left hD1 (by omega)
  have q0 : 0 ≤ (B - A) * D / M := Int.ediv_nonneg p0 (by omega)
  have q1 : (B - A) * D / M ≤ B - A := Int.ediv_le_of_le_mul hM0 p1
  omega
 ·have p0 : (B - A) * D ≤ 0 := Int.mul_nonpos_of_nonpos_of_nonneg (by omega) hD0
  have p1 : (B - A) * M ≤ (B - A) * D := Int.mul_le_mul_of_nonpos_left (by omega) hD1
  have q0 : (B - A) * D / M ≤ 0 := Int.ediv_le_of_le_mul hM0 (by omega)
  have q1 : B - A ≤ (B - A) * D / M := Int.le_ediv_of_mul_le hM0 p1
  omega
def RestSpan (base mi ln : Int) (f : Nat → Int) (ab : Bool) (D : Int) (s : Sp) : Prop :=
 ∃ b, RestP (D + 1) ab ∧ ¬ RestP D ab ∧ D + 1 ≤ b ∧ b ≤ D + 3 ∧ (∀ x, D + 1 ≤ x → x ≤ b → RestP x ab) ∧ ¬ RestP (b + 1) ab ∧
  s.a = D * 1440 + sunAt f D - base - mi ∧ s.b = b * 1440 + sunAt f b - base + ln
theorem restSpan_lt {base mi ln : Int} {f : Nat → Int} {ab : Bool} {D : Int} {s : Sp} (h : RestSpan base mi ln f ab D s) (hi : SunIn f) (h1 : 1 ≤ D) (h2 : D ≤ 3652000) (m1 : 0 ≤ mi) (m2 : mi ≤ 180) (l1 : 0 ≤ ln) (l2 : ln ≤ 180) : s.a < s.b := by
 obtain ⟨b, _, _, b1, b2, _, _, ea, eb⟩ := h
 have s1 := sunAt_in (n := D) hi h1 (by omega)
 have s2 := sunAt_in (n := b) hi (by omega) (by omega)
 omega
theorem restSpan_noon {base mi ln : Int} {f : Nat → Int} {ab : Bool} {D n : Int} {s : Sp} (h : RestSpan base mi ln f ab D s) (hi : SunIn f) (h1 : 1 ≤ D) (h2 : D ≤ 3652000) (m1 : 0 ≤ mi) (m2 : mi ≤ 180) (l1 : 0 ≤ ln) (l2 : ln ≤ 180)
  (t1 : s.a ≤ n * 1440 + 719 - base) (t2 : n * 1440 + 719 - base < s.b) : RestP n ab := by
 obtain ⟨b, _, _, b1, b2, hin, _, ea, eb⟩ := h
 have s1 := sunAt_in (n := D) hi h1 (by omega)
 have s2 := sunAt_in (n := b) hi (by omega) (by omega)
 exact hin n (by omega) (by omega)
theorem noon_restSpan {base mi ln : Int} {f : Nat → Int} {ab : Bool} {n : Int} (hr : RestP n ab) (hi : SunIn f) (h1 : 1000 ≤ n) (h2 : n ≤ 3652000) (m1 : 0 ≤ mi) (m2 : mi ≤ 180) (l1 : 0 ≤ ln) (l2 : ln ≤ 180) :
  ∃ D s, n - 3 ≤ D ∧ D ≤ n - 1 ∧ RestSpan base mi ln f ab D s ∧ s.a ≤ n * 1440 + 719 - base ∧ n * 1440 + 719 - base < s.b := by
 obtain ⟨a, b, a1, b1, ab2, hin, ha, hb⟩ := row_ex hr
 have s1 := sunAt_in (n := a - 1) hi (by omega) (by omega)
 have s2 := sunAt_in (n := b) hi (by omega) (by omega)
 refine ⟨a - 1, ⟨(a - 1) * 1440 + sunAt f (a - 1) - base - mi, b * 1440 + sunAt f b - base + ln, 0, 0⟩, by omega, by omega, ⟨b, ?_, ha, by omega, by omega, ?_, hb, rfl, rfl⟩, by dsimp only; omega, by dsimp only; omega⟩
 ·rw [Int.sub_add_cancel]; exact hin a (by omega) (by omega)
 ·rw [Int.sub_add_cancel]; exact hin
structure Wn where
 k : Int
 m : Int
 p : Int
 a : Int
 s : Int
 mi : Int
 l : Int
structure Cfg where
 fl : Int
 ca : Int
 pk : Int
 st : List Int
 tv : Int
 lv : Int
 op : Int
 dw : Int
 ld : Int
 cl : Int
 ho : Int
 rs : Int
 pa : Int
 z : Zn
 f : Nat → Int
 ab : Bool
 w : Wn
def timedOk (w : Wn) : Prop := 0 ≤ w.mi ∧ w.mi ≤ 1439 ∧ 1 ≤ w.l ∧ w.l ≤ 10080
def WnOk (w : Wn) : Prop :=
 0 ≤ w.m ∧ w.m ≤ 5 ∧ 0 ≤ w.p ∧ w.p ≤ 99 ∧ w.s = 0 ∧
  ((w.k = 1 ∧ timedOk w ∧ 1 ≤ w.a ∧ w.a ≤ 127) ∨ (w.k = 4 ∧ w.a = 0 ∧ 0 ≤ w.mi ∧ w.mi ≤ 180 ∧ 0 ≤ w.l ∧ w.l ≤ 180))
def StopsOk (fl : Int) (l : List Int) : Prop := 2 ≤ l.length ∧ (∀ x ∈ l, 0 ≤ x ∧ x < fl) ∧ l.Pairwise (· < ·)
def TimesOk (c : Cfg) : Prop :=
 (1 ≤ c.tv ∧ c.tv ≤ 60) ∧ (1 ≤ c.lv ∧ c.lv ≤ 60) ∧ (1 ≤ c.op ∧ c.op ≤ 60) ∧ (1 ≤ c.dw ∧ c.dw ≤ 60) ∧ (1 ≤ c.cl ∧ c.cl ≤ 60) ∧ (0 ≤ c.ho ∧ c.ho ≤ 60) ∧ (1 ≤ c.rs ∧ c.rs ≤ 300) ∧ (1 ≤ c.pa ∧ c.pa ≤ 300) ∧ (1 ≤ c.ld ∧ c.ld ≤ c.dw ∧ c.ld ≤ c.rs ∧ c.ld ≤ c.pa)
structure CfgOk (c : Cfg) : Prop where
 fl1 : 2 ≤ c.fl
 fl2 : c.fl ≤ 64
 ca1 : 1 ≤ c.ca
 ca2 : c.ca ≤ 8
 pk1 : 0 ≤ c.pk
 pk2 : c.pk < c.fl
 st : StopsOk c.fl c.st
 tm : TimesOk c
 z : zErr c.z = 0
 f : sunErr c.f = 0
 w : WnOk c.w
theorem stops_len {fl : Int} {l : List Int} (h : StopsOk fl l) (h64 : fl ≤ 64) : l.length ≤ 64 := by
 obtain ⟨_, hin, hp⟩ := h
 have key : ∀ (l : List Int) (b : Int), (∀ x ∈ l, b ≤ x ∧ x < fl) → l.Pairwise (· < ·) → (l.length : Int) ≤ max 0 (fl - b) := by
  intro l
  induction l with
  | nil => intro b _ _; simp; omega
  | cons x l ih =>
   intro b h1 h2
   have hx := h1 x (by simp)
   have := ih (x + 1) (fun y hy => by have := (List.pairwise_cons.1 h2).1 y hy; have := h1 y (by simp [hy]); omega) (List.pairwise_cons.1 h2).2
   simp only [List.length_cons]
   omega
 have := key l 0 hin hp
 omega
def abI (b : Bool) : Int := if b then 1 else 0
def row1 (c : Cfg) : List Int := [c.fl, c.ca, c.pk, c.rs, c.pa, abI c.ab]
def row3 (c : Cfg) : List Int := [c.tv, c.lv, c.op, c.dw, c.ld, c.cl, c.ho]
def row4 (c : Cfg) : List Int := [c.z.b, c.z.s, c.z.m, c.z.k, c.z.d, c.z.t, c.z.m', c.z.k', c.z.d', c.z.t']
def row5 (c : Cfg) : List Int := [c.f 0, c.f 1, c.f 2, c.f 3, c.f 4, c.f 5, c.f 6, c.f 7, c.f 8, c.f 9, c.f 10, c.f 11]
def row6 (c : Cfg) : List Int := [c.w.k, c.w.m, c.w.p, c.w.a, c.w.s, c.w.mi, c.w.l]
def rowsB (c : Cfg) : List Nat := rowB (row1 c) ++ (rowB c.st ++ (rowB (row3 c) ++ (rowB (row4 c) ++ (rowB (row5 c) ++ rowB (row6 c)))))
def cfgB (c : Cfg) : List Nat := sealV ([78, 87, 1] ++ rowsB c)
def recB (gen clock mode : Int) (b : List Nat) : List Nat := sealV (rowB [gen, clock, mode] ++ (putN b.length ++ b))
theorem cfgB_len {c : Cfg} (h : CfgOk c) : 5 ≤ (cfgB c).length ∧ (cfgB c).length ≤ 2000 := by
 have l0 := stops_len h.st h.fl2
 have l1 := rowB_len (row1 c)
 have l2 := rowB_len c.st
 have l3 := rowB_len (row3 c)
 have l4 := rowB_len (row4 c)
 have l5 := rowB_len (row5 c)
 have l6 := rowB_len (row6 c)
 simp [row1, row3, row4, row5, row6, cfgB, rowsB, sealV] at *
 omega
end Go.Proofs.YtfnifgppblbjhaaGreatDoor
namespace Go.Proofs.YtfnifgppblbjhaaGreatDoor
set_option maxHeartbeats 8000000
open Go Go.RowKit
set_option linter.unusedVariables false
set_option linter.unusedSimpArgs false
theorem byte_info : (Tryz.prog.info? 5).map (fun i => (i.zero, i.size, i.bytes)) = some (some (.int .u8 0), 1, 1) := by kernel_rfl
def bts (l : List Nat) : List Value := l.map fun (x : Nat) => .int .u8 (x : Int)
theorem bts_len (l : List Nat) : (bts l).length = l.length := by simp [bts]
theorem bts_app (l k : List Nat) : bts (l ++ k) = bts l ++ bts k := by simp [bts]
theorem bts_one (l : List Nat) : ∀ u ∈ bts l, u.oneCell' = true := by
 intro u hu
 obtain ⟨x, _, rfl⟩ := List.mem_map.1 hu
 rfl
theorem own_below {B : Nat} {e : TypeId} {k : Nat} {v : Value} {n : Nat} {xs : List Value} {w w' : World} (h : w.ownsRow B e k v n xs) (hb : Below w.heap.size w w') : w'.ownsRow B e k v n xs :=
 h.kept ⟨hb.os, hb.tape, hb.output, hb.size, fun b hlt _ => hb.block b hlt⟩ (Classical.em _)
theorem oneU {k : IntKind} {a b : Int} (h : a = b) : Ending.returned (.int k a) = Ending.returned (.int k b) := by rw [h]
theorem i64_notz (n : Int) (h : I64 n) : bits .xor .i64 (-1) n = -1 - n := by
 obtain ⟨h0, h1⟩ := h
 show IntKind.i64.wrap ((BitVec.ofInt 64 (-1) ^^^ BitVec.ofInt 64 n).toNat : Int) = _
 have e1 : BitVec.ofInt 64 (-1) = BitVec.allOnes 64 := by decide
 rw [e1, BitVec.allOnes_xor, BitVec.toNat_not, BitVec.toNat_ofInt]
 simp [IntKind.wrap, IntKind.bits, IntKind.signed]
 omega
theorem pow7 (k : Nat) : (2 : Int) ^ (7 * k) = ((128 ^ k : Nat) : Int) := by
 rw [Int.pow_mul]
 simp
theorem x64 {k x : Nat} (hx : x < 128 ^ (9 - k) * 2) : (x : Int) < 18446744073709551616 := by
 have h1 : (128 : Nat) ^ (9 - k) ≤ 128 ^ 9 := Nat.pow_le_pow_right (by omega) (by omega)
 have h2 : x < 18446744073709551616 := Nat.lt_of_lt_of_le hx (Nat.le_trans (Nat.mul_le_mul_right 2 h1) (by decide))
 omega
theorem x_more {k x : Nat} (hk : k ≤ 9) (hx : x < 128 ^ (9 - k) * 2) (c : ¬ x < 128) : k < 9 ∧ x / 128 < 128 ^ (9 - (k + 1)) * 2 ∧ 9 - k = (9 - (k + 1)) + 1 := by
 have h9 : k ≠ 9 := by
  intro e; subst e
  simp at hx
  omega
 have e : 9 - k = (9 - (k + 1)) + 1 := by omega
 refine ⟨by omega, ?_, e⟩
 rw [e, Nat.pow_succ] at hx
 rw [Nat.div_lt_iff_lt_mul (by omega)]
 omega
theorem or7 (acc b k : Nat) (hk : k ≤ 9) (ha : acc < 128 ^ k) (hb : b < 128) (hb9 : k = 9 → b < 2) :
  bits .or .u64 (acc : Int) (IntKind.u64.wrap ((b : Int) * 2 ^ (7 * k))) = ((acc + b * 128 ^ k : Nat) : Int) := by
 have hp : b * 128 ^ k < 18446744073709551616 := by
  by_cases h9 : k = 9
  ·subst h9; have := hb9 rfl; omega
  ·have h1 : 128 ^ k ≤ 128 ^ 8 := Nat.pow_le_pow_right (by omega) (by omega)
   have h2 : b * 128 ^ k ≤ 127 * 128 ^ 8 := Nat.mul_le_mul (by omega) h1
   omega
 have hpk : (128 : Nat) ^ k = 2 ^ (7 * k) := by rw [Nat.pow_mul]
 have h9 : (128 : Nat) ^ k ≤ 128 ^ 9 := Nat.pow_le_pow_right (by omega) hk
 rw [pow7, ← Int.natCast_mul, IntKind.wrap_u64, Int.emod_eq_of_lt (by omega) (by omega)]
 rw [bits_join_low .u64 64 (by decide) wraps_u64 (7 * k) (acc : Int) ((b * 128 ^ k : Nat) : Int) (by omega) (by rw [hpk] at ha; exact_mod_cast ha) (by omega) (by omega) ?_ (by omega)]
 ·omega
 ·rw [hpk]
  have : ((b * 2 ^ (7 * k) : Nat) : Int) % (2 : Int) ^ (7 * k) = ((b * 2 ^ (7 * k) % 2 ^ (7 * k) : Nat) : Int) := by simp
  rw [this, Nat.mul_mod_left]; rfl
theorem rcode_any (n : Int) (w : World) (h : I64 n) : Calls Tryz.prog 79 #[.int .i64 n] w fun e w' => e = .returned (.int .u64 (zc n : Nat)) ∧ w = w' := by
 obtain ⟨h0, h1⟩ := h
 go_enter Tryz.func79, Tryz.ntmps79
 go_wp2
 all_goals
  go_ret
  refine ⟨oneU ?_, rfl⟩
  unfold zc
  split <;> omega
theorem or1 (x : Int) (h0 : 0 ≤ x) (h1 : x < 18446744073709551616) (h2 : x % 2 = 0) : bits .or .u64 x 1 = x + 1 :=
 bits_join .u64 64 (by decide) wraps_u64 1 x 1 h0 (by omega) h1 (by omega) (by omega) (by omega)
theorem code_any (n : Int) (w : World) (h : I64 n) : Calls Tryz.prog 133 #[.int .i64 n] w fun e w' => e = .returned (.int .u64 (zc n : Nat)) ∧ w = w' := by
 obtain ⟨h0, h1⟩ := h
 go_enter Tryz.func133, Tryz.ntmps133
 go_wp2
 all_goals
  go_ret
  refine ⟨oneU ?_, rfl⟩
  unfold zc
  try rw [i64_notz n ⟨h0, h1⟩]
  try simp only [IntKind.wrap_u64]
  try rw [or1 _ (by omega) (by omega) (by omega)]
  split <;> omega
def PutI (w : World) (P : List Nat) (cv out : Value) (wr : World) : Prop :=
 ∃ (k x : Nat) (done : List Nat), k ≤ 9 ∧ cv = .int .u64 (x : Int) ∧ x < 128 ^ (9 - k) * 2 ∧ P = done ++ putC (9 - k) x ∧ done.length = k ∧ wr.ownsRow w.heap.size 5 1 out k (bts done) ∧ Below w.heap.size w wr
theorem rput_any (n : Int) (w : World) (h : I64 n) : Calls Tryz.prog 41 #[.int .i64 n] w fun e w' => ∃ v, e = .returned v ∧ w'.ownsRow w.heap.size 5 1 v (putN n).length (bts (putN n)) ∧ Below w.heap.size w w' := by
 obtain ⟨i0, hi, hz0, hz1, hz2⟩ := info_hid byte_info
 have hc0 := zc_lt h.1 h.2
 obtain ⟨P, hP⟩ : ∃ P, putN n = P := ⟨_, rfl⟩
 have hP2 : P = [] ++ putC (9 - 0) (zc n) := by rw [← hP]; rfl
 rw [hP]
 clear hP
 go_enter Tryz.func41, Tryz.ntmps41
 go_wp2_with fail
 refine (rcode_any _ _ h).mono ?_; rintro e w' ⟨rfl, rfl⟩
 generalize zc n = c at *
 have hst : PutI w P (.int .u64 (c : Int)) (.slice none 0 0) w := ⟨0, c, [], by omega, rfl, by simpa using hc0, hP2, rfl, World.ownsRow_nil _ _ _ _, Below.refl _ _⟩
 clear hc0 hP2
 go_wp2_with fail
 go_loopw [3, 4] (fun cv out wr => PutI w P cv out wr) (fun cv _ _ => (intOf cv).toNat)
 case atStart => exact hst
 case round =>
  obtain ⟨k, x, done, hk, rfl, hx, hPd, hdl, hown, hB⟩ := hrel
  have hs := hB.size
  have hx64 := x64 hx
  have hm := x_more hk hx
  by_cases c : x < 128
  ·have hPe : P = done ++ [x] := by rw [hPd, putC_one c]
   have HL := Lib.hid (show k + 1 = P.length by rw [hPe]; simp [hdl])
   have HP := Lib.hid (show bts done ++ [.int .u8 (x : Int)] = bts P by rw [hPe, bts_app]; rfl)
   have hx1 : (x : Int) < 128 := by omega
   have hx0 : (0 : Int) ≤ x := by omega
   clear hPd hPe hm hx hst hdl c
   generalize (x : Int) = X at *
   have hdx : decide (128 ≤ X) = false := by simpa using hx1
   go_wp2_with (first | (at_builtin; refine wpList_append_lies _ rfl (.tmp 18) (.tmp 21) 52 rfl w.heap.size 5 i0 (.int .u8 0) 1 1 Tryz.underlying52 (hi ()) hz0 hz1 hz2 rfl (by decide) _ k _ rfl (hown.alloc _) ⟨wr.heap.size, 0, none⟩ 1 1 [.int .u8 X] rfl rfl (cell_one_new _ _ _) (by intro u hu; simp at hu; subst hu; rfl) (by omega) (by unfold maxLen; omega) (by omega) (by simp; omega) _ rfl ?_; intro g cap w' h2 h3 h4 h5))
   have hB2 := (hB.alloc hB.size (.cells #[.int .u8 X] 5)).grown h3 (by simp; omega) (fun k e => (hown.lt k e).1)
   rw [HP.out] at h2
   have H2 := Lib.hid h2
   go_ret
   exact ⟨_, rfl, by rw [← HL.out]; exact H2.out, hB2⟩
  ·obtain ⟨hk9, hx2, he⟩ := hm c
   have HR := Lib.hid (show P = (done ++ [x % 128 + 128]) ++ putC (9 - (k + 1)) (x / 128) by rw [hPd, he, putC_more c]; simp)
   have HX := Lib.hid hx2
   have HP := Lib.hid (show bts done ++ [.int .u8 ((x : Int) % 128 + 128)] = bts (done ++ [x % 128 + 128]) by rw [bts_app]; simp [bts])
   have hx1 : (128 : Int) ≤ x := by omega
   clear hPd hm hx hst c hx2 he
   go_wp2_with (first | (at_builtin; refine wpList_append_lies _ rfl (.tmp 9) (.tmp 14) 52 rfl w.heap.size 5 i0 (.int .u8 0) 1 1 Tryz.underlying52 (hi ()) hz0 hz1 hz2 rfl (by decide) _ k _ rfl (hown.alloc _) ⟨wr.heap.size, 0, none⟩ 1 1 [.int .u8 ((x : Int) % 128 + 128)] rfl rfl (cell_one_new _ _ _) (by intro u hu; simp at hu; subst hu; rfl) (by omega) (by unfold maxLen; omega) (by omega) (by simp; omega) _ rfl ?_; intro g cap w' h2 h3 h4 h5))
   have hB2 := (hB.alloc hB.size (.cells #[.int .u8 ((x : Int) % 128 + 128)] 5)).grown h3 (by simp; omega) (fun k e => (hown.lt k e).1)
   rw [HP.out] at h2
   go_round
   case rel => exact ⟨k + 1, x / 128, done ++ [x % 128 + 128], by omega, by go_num, HX.out, HR.out, by simp [hdl], h2, hB2⟩
   case measure => simp [intOf]; omega
theorem int_one (k : IntKind) (l : List Int) : ∀ u ∈ l.map (Value.int k), u.oneCell' = true := by
 intro u hu
 obtain ⟨x, _, rfl⟩ := List.mem_map.1 hu
 rfl
def Rd (w : World) (v : Value) (n : Nat) (cs : List Value) : Prop := (n = 0 ∧ cs = [] ∧ ∃ p c, v = .slice p 0 c) ∨ (0 < n ∧ ∃ b o c, v = .slice (some ⟨b, o, none⟩) n c ∧ n ≤ c ∧ w.rangeAt b o cs)
theorem range_keep {W W2 : World} {b o : Nat} {cs : List Value} (h : W.rangeAt b o cs) (hb : Below W.heap.size W W2) : W2.rangeAt b o cs := fun j v hv => by
 have := h j v hv
 exact (hb.cell (p := ⟨b, o + j, none⟩) (World.block_lt_of_cell? W _ this)).trans this
theorem Rd.below {w w' : World} {v : Value} {n : Nat} {cs : List Value} (h : Rd w v n cs) (hb : Below w.heap.size w w') : Rd w' v n cs := by
 rcases h with h | ⟨h0, b, o, c, e, hc, hr⟩
 ·exact .inl h
 ·exact .inr ⟨h0, b, o, c, e, hc, range_keep hr hb⟩
theorem own_rd {w : World} {B : Nat} {e : TypeId} {k : Nat} {v : Value} {n : Nat} {xs : List Value} (h : w.ownsRow B e k v n xs) : Rd w v n xs := by
 by_cases h0 : n = 0
 ·subst h0
  have hl : xs = [] := by have := h.1; simpa using this
  refine .inl ⟨rfl, hl, ?_⟩
  rcases h.2 with ⟨e1, _⟩ | ⟨g, cap, cur, e1, _⟩
  ·exact ⟨none, 0, e1⟩
  ·exact ⟨_, cap, e1⟩
 ·obtain ⟨g, cap, e1, hc⟩ : ∃ g cap, v = .slice (some ⟨g, 0, none⟩) n cap ∧ n ≤ cap := by
   rcases h.2 with ⟨_, h1⟩ | ⟨g, cap, cur, e1, _, _, hc, _⟩
   ·omega
   ·exact ⟨g, cap, e1, hc⟩
  refine .inr ⟨by omega, g, 0, cap, e1, hc, fun j u hu => ?_⟩
  have := h.cells (g := g) (by rw [e1]; rfl) j u hu
  rwa [Addr.add_mid] at this
def RowI (w : World) (l : List Int) (iv out : Value) (wr : World) : Prop :=
 ∃ k : Nat, k ≤ l.length ∧ iv = .int .i64 (k : Int) ∧ wr.ownsRow w.heap.size 5 1 out (putN l.length ++ (l.take k).flatMap putN).length (bts (putN l.length ++ (l.take k).flatMap putN)) ∧ Below w.heap.size w wr
theorem Rd.form {w : World} {v : Value} {n : Nat} {cs : List Value} (h : Rd w v n cs) : ∃ p c, v = .slice p n c := by
 rcases h with ⟨h0, _, p, c, e⟩ | ⟨_, b, o, c, e, _, _⟩
 ·exact ⟨p, c, by rw [e, h0]⟩
 ·exact ⟨_, c, e⟩
theorem Rd.some {w : World} {v : Value} {n : Nat} {cs : List Value} (h : Rd w v n cs) (h0 : 0 < n) : ∃ b o c, v = .slice (some ⟨b, o, none⟩) n c ∧ n ≤ c ∧ w.rangeAt b o cs := by
 rcases h with ⟨h1, _⟩ | ⟨_, h⟩
 ·omega
 ·exact h
theorem below_grown {w w' : World} (h : w.grownBy w' none) : Below w.heap.size w w' := ⟨h.os, h.tape, h.output, h.size, fun k hk => h.block k hk (by simp)⟩
theorem rrow_any (l : List Int) (v : Value) (w : World) (hv : Rd w v l.length (l.map (.int .i64))) (hl : l.length < 1000000) (hi : ∀ x ∈ l, I64 x) :
  Calls Tryz.prog 40 #[v] w fun e w' => ∃ v', e = .returned v' ∧ w'.ownsRow w.heap.size 5 1 v' (rowB l).length (bts (rowB l)) ∧ Below w.heap.size w w' := by
 obtain ⟨i0, hi0, hz0, hz1, hz2⟩ := info_hid byte_info
 obtain ⟨p, c, hpc⟩ : ∃ p c, v = .slice p l.length c := by
  rcases hv with ⟨h0, _, p, c, e⟩ | ⟨_, b, o, c, e, _, _⟩
  ·exact ⟨p, c, by rw [e, h0]⟩
  ·exact ⟨_, c, e⟩
 subst hpc
 obtain ⟨n, hn⟩ : ∃ n, l.length = n := ⟨_, rfl⟩
 have hb := rowB_len l
 rw [hn] at hb hv hl ⊢
 go_enter Tryz.func40, Tryz.ntmps40
 go_wp2_with fail
 refine (rput_any _ _ (by unfold I64; omega)).mono ?_; rintro e w1 ⟨v1, rfl, h1, hb1⟩
 have hst : RowI w l (.int .i64 0) v1 w1 := ⟨0, by omega, rfl, by simpa [hn] using h1, hb1⟩
 clear h1
 go_wp2_with fail
 go_loopw [3, 4] (fun out iv wr => RowI w l iv out wr) (fun _ iv _ => (n - intOf iv).toNat)
 case atStart => exact hst
 case round =>
  clear hst
  obtain ⟨k, hk, rfl, hown, hB⟩ := hrel
  rw [hn] at hk
  have hs := hB.size
  by_cases c : k < n
  ·rcases hv.below hB with ⟨h0, _⟩ | ⟨_, b, o, c', e, _, hr⟩
   ·omega
   cases e
   obtain ⟨x, hx⟩ : ∃ x, l[k]? = some x := ⟨_, List.getElem?_eq_getElem (by omega)⟩
   have hI := hi x (List.mem_of_getElem? hx)
   have hcell : wr.cell? ⟨b, o + k, none⟩ = some (.int .i64 x) := hr k (.int .i64 x) (by simp [hx])
   have HT := Lib.hid (show l.take (k + 1) = l.take k ++ [x] by rw [List.take_add_one, hx]; rfl)
   have hp := putN_len x
   have hb2 := putN_len l.length
   have hf := flat_le (l.take k)
   have ht : (l.take k).length = k := by simp; omega
   obtain ⟨D, hD⟩ : ∃ D, putN l.length ++ (l.take k).flatMap putN = D := ⟨_, rfl⟩
   have hDl : D.length ≤ 10 + 10 * k ∧ 1 ≤ D.length := by rw [← hD, List.length_append]; omega
   rw [hD] at hown
   have HD := Lib.hid hD
   have hlt : decide ((k : Int) < (n : Int)) = true := by simp; omega
   clear hx hr hi hf hb2 hD hv ht
   obtain ⟨m, hm⟩ : ∃ m, D.length = m := ⟨_, rfl⟩
   rw [hm] at hown hDl
   obtain ⟨g, cap, rfl, hg1, hg2⟩ := hown.form (by omega)
   go_wp2_with fail
   refine (rput_any _ _ hI).mono ?_; rintro e w2 ⟨v2, rfl, h2, hb2⟩
   obtain ⟨q, hq⟩ : ∃ q, (putN x).length = q := ⟨_, rfl⟩
   rw [hq] at h2 hp
   obtain ⟨g2, cap2, rfl, _, hg4⟩ := h2.form (by omega)
   have hown2 := own_below hown hb2
   have hB2 := hB.trans (hb2.mono hs)
   have hs2 := hb2.size
   have hn2 := h2.cells (g := g2) rfl
   have hl2 : (bts (putN x)).length = q * 1 := by rw [bts_len]; omega
   have h12 := bts_one (putN x)
   obtain ⟨NW, hNW⟩ : ∃ NW, bts (putN x) = NW := ⟨_, rfl⟩
   rw [hNW] at hn2 hl2 h12
   have HN := Lib.hid (show bts D ++ NW = bts (D ++ putN x) by rw [bts_app, hNW])
   clear hNW
   clear hown hb2 hB h2 hg1 hg2
   go_wp2_with (first | (at_builtin; refine wpList_append_lies _ rfl (.tmp 14) (.tmp 19) 52 rfl w.heap.size 5 i0 (.int .u8 0) 1 1 Tryz.underlying52 (hi0 ()) hz0 hz1 hz2 rfl (by decide) _ m _ rfl hown2 ⟨g2, 0, none⟩ q cap2 NW rfl hl2 hn2 h12 (by omega) (by unfold maxLen; omega) (by omega) (by omega) _ rfl ?_; intro g5 cap5 w5 h5 hg5 _ hg6))
   have hB5 := hB2.grown hg5 hB2.size (fun k e => (hown2.lt k e).1)
   go_round
   case rel =>
    refine ⟨k + 1, by omega, by go_num, ?_, hB5⟩
    have e : putN l.length ++ (l.take (k + 1)).flatMap putN = D ++ putN x := by rw [HT.out, List.flatMap_append, ← List.append_assoc, HD.out]; simp
    rw [e, ← HN.out, List.length_append, hm, hq]
    exact h5
   case measure => simp [intOf]; omega
  ·have e : k = n := by omega
   subst e
   have he : putN l.length ++ (l.take k).flatMap putN = rowB l := by rw [← hn, List.take_length]; rfl
   rw [he] at hown
   have HO := Lib.hid hown
   clear hi hown hb hv
   go_wp2_with fail
   go_ret
   exact ⟨_, rfl, HO.out, hB⟩
end Go.Proofs.YtfnifgppblbjhaaGreatDoor
