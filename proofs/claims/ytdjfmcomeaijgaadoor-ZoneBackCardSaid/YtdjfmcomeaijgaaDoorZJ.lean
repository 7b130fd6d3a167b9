/- ZoneBack: an instant is one of those at which clocks tell what they tell then: the walk. -/
import Derived.Test.YtdjfmcomeaijgaaDoorZH
namespace Go.Proofs.YtdjfmcomeaijgaaDoor
open Go Go.RowKit
set_option linter.unusedVariables false
set_option linter.unusedSimpArgs false

theorem beq_self (x : Int) : (x == x) = true := beq_iff_eq.2 rfl

set_option maxRecDepth 100000 in
set_option maxHeartbeats 4000000 in
theorem zback_one (b s m k d t m' k' d' t' u q a1 b1 T : Int) (w : World) (ht : Tab w) (hz : zErr ⟨b, s, m, k, d, t, m', k', d', t'⟩ = 0) (hr : tErr ⟨b, s, m, k, d, t, m', k', d', t'⟩ u = 0) (hq : shiftV ⟨b, s, m, k, d, t, m', k', d', t'⟩ u = q) (e1 : ((u + b + q) / 1440 = a1)) (f1 : ((u + b + q) % 1440 = b1)) (hd : DayOk a1 b1) (hT : (a1 * 1440 + b1 - b = T)) (hx : instV ⟨b, s, m, k, d, t, m', k', d', t'⟩ T = [u]) :
    Calls Tryd.prog 16 #[.agg #[.int .i64 b, .int .i64 s, .int .i64 m, .int .i64 k, .int .i64 d, .int .i64 t, .int .i64 m', .int .i64 k', .int .i64 d', .int .i64 t'], .int .i64 u] w fun e w' => e = .returned (.bool true) ∧ Below w.heap.size w w' := by
  have hA := (Below.refl w.heap.size w).alloc (Nat.le_refl _) (.cells #[.int .i64 b, .int .i64 s, .int .i64 m, .int .i64 k, .int .i64 d, .int .i64 t, .int .i64 m', .int .i64 k', .int .i64 d', .int .i64 t'] 49)
  have kA := BlockIs.new w #[.int .i64 b, .int .i64 s, .int .i64 m, .int .i64 k, .int .i64 d, .int .i64 t, .int .i64 m', .int .i64 k', .int .i64 d', .int .i64 t'] 49
  have htA := ht.below hA
  have E1 := Lib.hid e1
  have F1 := Lib.hid f1
  have HT := Lib.hid hT
  clear e1 f1 hT
  go_enter Tryd.func16, Tryd.ntmps16
  go_wp2_with fail
  refine (zlocal_ok _ _ _ _ _ _ _ _ _ _ u q a1 b1 _ htA hr hq E1.out F1.out).mono ?_; rintro e w1 ⟨rfl, hb⟩
  have k1 := kA.kept hb
  have h1 := hA.trans (hb.mono hA.size)
  have ht1 := htA.below hb
  clear hb kA hA htA
  obtain ⟨z0, z1, z2, z3, z4, z5, z6, z7, z8, z9⟩ := zone_cells k1
  go_wp2_with fail
  refine (zinst_ok _ _ _ _ _ _ _ _ _ _ a1 b1 _ [u] _ ht1 hz hd HT.out hx).mono ?_; rintro e w2 ⟨out, rfl, ro, hb⟩
  have k2 := k1.kept hb
  have h2 := h1.trans (hb.mono h1.size)
  have ht2 := ht1.below hb
  clear hb k1 h1 ht1 z0 z1 z2 z3 z4 z5 z6 z7 z8 z9
  obtain ⟨g, cap, rfl, x0, x1⟩ := row_some ro
  simp only [List.length_cons, List.length_nil, Nat.zero_add, Nat.reduceAdd]
  clear ro
  obtain ⟨z0, z1, z2, z3, z4, z5, z6, z7, z8, z9⟩ := zone_cells k2
  go_wp2_with fail
  go_loopw [10, 11, 12, 13, 14] (fun met x _ _ _ wr => ∃ i : Nat, i ≤ 1 ∧ x = .int .i64 (i : Int) ∧ met = .bool (decide (0 < i)) ∧ BlockIs wr w.heap.size #[.int .i64 b, .int .i64 s, .int .i64 m, .int .i64 k, .int .i64 d, .int .i64 t, .int .i64 m', .int .i64 k', .int .i64 d', .int .i64 t'] 49 ∧ wr.cell? ⟨g, 0, none⟩ = some (.int .i64 u) ∧ Tab wr ∧ Below w.heap.size w wr) (fun _ x _ _ _ _ => (1 - intOf x).toNat)
  case atStart => exact ⟨0, by omega, rfl, rfl, k2, x0, ht2, h2⟩
  case round =>
    clear z0 z1 z2 z3 z4 z5 z6 z7 z8 z9 x0 x1 k2 ht2 h2
    obtain ⟨i, hi, rfl, rfl, hkz, x0, htr, hB⟩ := hrel
    obtain ⟨z0, z1, z2, z3, z4, z5, z6, z7, z8, z9⟩ := zone_cells hkz
    have hi2 : (i = 0 ∧ (i : Int) = 0) ∨ (i = 1 ∧ (i : Int) = 1) := by omega
    rcases hi2 with ⟨e, e'⟩ | ⟨e, e'⟩ <;> rw [e'] <;> clear e' <;> subst e
    · simp only [Nat.lt_irrefl, decide_false]
      go_wp2_with fail
      have HTT := Lib.hid (show ∀ W', Below wr.heap.size wr W' → Tab W' from fun W' h => htr.below h)
      have HK := Lib.hid hkz
      have HB := Lib.hid hB
      have HT0 := Lib.hid htr
      clear htr hkz hB
      go_region_held3 (fun w' => w'.cell? ⟨w.heap.size, 0, none⟩ = some (.int .i64 b) ∧ w'.cell? ⟨w.heap.size, 1, none⟩ = some (.int .i64 s) ∧ w'.cell? ⟨w.heap.size, 2, none⟩ = some (.int .i64 m) ∧ w'.cell? ⟨w.heap.size, 3, none⟩ = some (.int .i64 k) ∧ w'.cell? ⟨w.heap.size, 4, none⟩ = some (.int .i64 d) ∧ w'.cell? ⟨w.heap.size, 5, none⟩ = some (.int .i64 t) ∧ w'.cell? ⟨w.heap.size, 6, none⟩ = some (.int .i64 m') ∧ w'.cell? ⟨w.heap.size, 7, none⟩ = some (.int .i64 k') ∧ w'.cell? ⟨w.heap.size, 8, none⟩ = some (.int .i64 d') ∧ w'.cell? ⟨w.heap.size, 9, none⟩ = some (.int .i64 t') ∧ w'.cell? ⟨g, 0, none⟩ = some (.int .i64 u) ∧ Below wr.heap.size wr w')
        (first
          | (exact ⟨z0, z1, z2, z3, z4, z5, z6, z7, z8, z9, x0, (Below.refl _ _).drew⟩)
          | assumption
          | (refine keepZ (by assumption) hb4 (Nat.le_refl _))
          | go_keep)
        (first
          | (go_at_call 46; refine (zlocal_ok _ _ _ _ _ _ _ _ _ _ _ q a1 b1 _ (by exact HTT.out _ (belowZ (by assumption))) hr hq E1.out F1.out).mono ?_; rintro e w4 ⟨rfl, hb4⟩))
      clear z0 z1 z2 z3 z4 z5 z6 z7 z8 z9 x0
      obtain ⟨z0, z1, z2, z3, z4, z5, z6, z7, z8, z9, x0, hh⟩ := (show w4.cell? ⟨w.heap.size, 0, none⟩ = some (.int .i64 b) ∧ w4.cell? ⟨w.heap.size, 1, none⟩ = some (.int .i64 s) ∧ w4.cell? ⟨w.heap.size, 2, none⟩ = some (.int .i64 m) ∧ w4.cell? ⟨w.heap.size, 3, none⟩ = some (.int .i64 k) ∧ w4.cell? ⟨w.heap.size, 4, none⟩ = some (.int .i64 d) ∧ w4.cell? ⟨w.heap.size, 5, none⟩ = some (.int .i64 t) ∧ w4.cell? ⟨w.heap.size, 6, none⟩ = some (.int .i64 m') ∧ w4.cell? ⟨w.heap.size, 7, none⟩ = some (.int .i64 k') ∧ w4.cell? ⟨w.heap.size, 8, none⟩ = some (.int .i64 d') ∧ w4.cell? ⟨w.heap.size, 9, none⟩ = some (.int .i64 t') ∧ w4.cell? ⟨g, 0, none⟩ = some (.int .i64 u) ∧ Below wr.heap.size wr w4 by assumption)
      have HH := Lib.hid hh
      clear hh
      go_wp2_with fail
      go_quiet (fail)
      go_wp2_with fail
      go_round
      case rel => exact ⟨1, by omega, by go_num, by simp, (HK.out.kept HH.out).drewN _, x0, (HTT.out _ HH.out).drewN _, below_drewN (HB.out.trans (HH.out.mono HB.out.size)) _⟩
      case measure => simp [intOf]
    · simp only [Nat.zero_lt_one, decide_true]
      go_wp2_with fail
      refine (awake6 _ htr).mono ?_; rintro e w4 ⟨rfl, hb⟩
      have HB := Lib.hid (hB.trans (hb.mono hB.size))
      clear hb hB
      go_wp2
      go_ret
      exact ⟨rfl, HB.out⟩

set_option maxRecDepth 100000 in
set_option maxHeartbeats 4000000 in
theorem zback_early (b s m k d t m' k' d' t' u q a1 b1 y p T : Int) (w : World) (ht : Tab w) (hz : zErr ⟨b, s, m, k, d, t, m', k', d', t'⟩ = 0) (hr : tErr ⟨b, s, m, k, d, t, m', k', d', t'⟩ u = 0) (hq : shiftV ⟨b, s, m, k, d, t, m', k', d', t'⟩ u = q) (e1 : ((u + b + q) / 1440 = a1)) (f1 : ((u + b + q) % 1440 = b1)) (hd : DayOk a1 b1) (hT : (a1 * 1440 + b1 - b = T)) (hx : instV ⟨b, s, m, k, d, t, m', k', d', t'⟩ T = [u, y]) (hlt : u < y) (hry : tErr ⟨b, s, m, k, d, t, m', k', d', t'⟩ y = 0) (hp : shiftV ⟨b, s, m, k, d, t, m', k', d', t'⟩ y = p) (e2 : (y + b + p) / 1440 = a1) (f2 : (y + b + p) % 1440 = b1) :
    Calls Tryd.prog 16 #[.agg #[.int .i64 b, .int .i64 s, .int .i64 m, .int .i64 k, .int .i64 d, .int .i64 t, .int .i64 m', .int .i64 k', .int .i64 d', .int .i64 t'], .int .i64 u] w fun e w' => e = .returned (.bool true) ∧ Below w.heap.size w w' := by
  have hA := (Below.refl w.heap.size w).alloc (Nat.le_refl _) (.cells #[.int .i64 b, .int .i64 s, .int .i64 m, .int .i64 k, .int .i64 d, .int .i64 t, .int .i64 m', .int .i64 k', .int .i64 d', .int .i64 t'] 49)
  have kA := BlockIs.new w #[.int .i64 b, .int .i64 s, .int .i64 m, .int .i64 k, .int .i64 d, .int .i64 t, .int .i64 m', .int .i64 k', .int .i64 d', .int .i64 t'] 49
  have htA := ht.below hA
  have E1 := Lib.hid e1
  have F1 := Lib.hid f1
  have E2 := Lib.hid e2
  have F2 := Lib.hid f2
  have HT := Lib.hid hT
  have hle : decide (y ≤ u) = false := by simp; omega
  have uu := tErr_0 hr
  have yy := tErr_0 hry
  obtain ⟨_, uu1, uu2⟩ := uu
  obtain ⟨_, yy1, yy2⟩ := yy
  clear e1 f1 e2 f2 hT
  go_enter Tryd.func16, Tryd.ntmps16
  go_wp2_with fail
  refine (zlocal_ok _ _ _ _ _ _ _ _ _ _ u q a1 b1 _ htA hr hq E1.out F1.out).mono ?_; rintro e w1 ⟨rfl, hb⟩
  have k1 := kA.kept hb
  have h1 := hA.trans (hb.mono hA.size)
  have ht1 := htA.below hb
  clear hb kA hA htA
  obtain ⟨z0, z1, z2, z3, z4, z5, z6, z7, z8, z9⟩ := zone_cells k1
  go_wp2_with fail
  refine (zinst_ok _ _ _ _ _ _ _ _ _ _ a1 b1 _ [u, y] _ ht1 hz hd HT.out hx).mono ?_; rintro e w2 ⟨out, rfl, ro, hb⟩
  have k2 := k1.kept hb
  have h2 := h1.trans (hb.mono h1.size)
  have ht2 := ht1.below hb
  clear hb k1 h1 ht1 z0 z1 z2 z3 z4 z5 z6 z7 z8 z9
  obtain ⟨g, cap, rfl, x0, x1⟩ := row_some ro
  simp only [List.length_cons, List.length_nil, Nat.zero_add, Nat.reduceAdd]
  clear ro
  obtain ⟨z0, z1, z2, z3, z4, z5, z6, z7, z8, z9⟩ := zone_cells k2
  go_wp2_with fail
  have x1 := x1 _ rfl
  go_loopw [10, 11, 12, 13, 14] (fun met x _ _ _ wr => ∃ i : Nat, i ≤ 2 ∧ x = .int .i64 (i : Int) ∧ met = .bool (decide (0 < i)) ∧ BlockIs wr w.heap.size #[.int .i64 b, .int .i64 s, .int .i64 m, .int .i64 k, .int .i64 d, .int .i64 t, .int .i64 m', .int .i64 k', .int .i64 d', .int .i64 t'] 49 ∧ wr.cell? ⟨g, 0, none⟩ = some (.int .i64 u) ∧ wr.cell? ⟨g, 1, none⟩ = some (.int .i64 y) ∧ Tab wr ∧ Below w.heap.size w wr) (fun _ x _ _ _ _ => (2 - intOf x).toNat)
  case atStart => exact ⟨0, by omega, rfl, rfl, k2, x0, x1, ht2, h2⟩
  case round =>
    clear z0 z1 z2 z3 z4 z5 z6 z7 z8 z9 x0 x1 k2 ht2 h2
    obtain ⟨i, hi, rfl, rfl, hkz, x0, x1, htr, hB⟩ := hrel
    obtain ⟨z0, z1, z2, z3, z4, z5, z6, z7, z8, z9⟩ := zone_cells hkz
    have hi2 : (i = 0 ∧ (i : Int) = 0) ∨ (i = 1 ∧ (i : Int) = 1) ∨ (i = 2 ∧ (i : Int) = 2) := by omega
    rcases hi2 with ⟨e, e'⟩ | ⟨e, e'⟩ | ⟨e, e'⟩ <;> rw [e'] <;> clear e' <;> subst e
    · rw [show decide (0 < 0) = false from rfl]
      go_wp2_with fail
      have HTT := Lib.hid (show ∀ W', Below wr.heap.size wr W' → Tab W' from fun W' h => htr.below h)
      have HK := Lib.hid hkz
      have HB := Lib.hid hB
      have HT0 := Lib.hid htr
      clear htr hkz hB
      go_region_held3 (fun w' => w'.cell? ⟨w.heap.size, 0, none⟩ = some (.int .i64 b) ∧ w'.cell? ⟨w.heap.size, 1, none⟩ = some (.int .i64 s) ∧ w'.cell? ⟨w.heap.size, 2, none⟩ = some (.int .i64 m) ∧ w'.cell? ⟨w.heap.size, 3, none⟩ = some (.int .i64 k) ∧ w'.cell? ⟨w.heap.size, 4, none⟩ = some (.int .i64 d) ∧ w'.cell? ⟨w.heap.size, 5, none⟩ = some (.int .i64 t) ∧ w'.cell? ⟨w.heap.size, 6, none⟩ = some (.int .i64 m') ∧ w'.cell? ⟨w.heap.size, 7, none⟩ = some (.int .i64 k') ∧ w'.cell? ⟨w.heap.size, 8, none⟩ = some (.int .i64 d') ∧ w'.cell? ⟨w.heap.size, 9, none⟩ = some (.int .i64 t') ∧ w'.cell? ⟨g, 0, none⟩ = some (.int .i64 u) ∧ w'.cell? ⟨g, 1, none⟩ = some (.int .i64 y) ∧ Below wr.heap.size wr w')
        (first
          | (exact ⟨z0, z1, z2, z3, z4, z5, z6, z7, z8, z9, x0, x1, (Below.refl _ _).drew⟩)
          | assumption
          | (refine keepY (by assumption) hb4 (Nat.le_refl _))
          | go_keep)
        (first
          | (go_at_call 46; refine (zlocal_ok _ _ _ _ _ _ _ _ _ _ _ q a1 b1 _ (by exact HTT.out _ (belowY (by assumption))) hr hq E1.out F1.out).mono ?_; rintro e w4 ⟨rfl, hb4⟩))
      clear z0 z1 z2 z3 z4 z5 z6 z7 z8 z9 x0 x1
      obtain ⟨z0, z1, z2, z3, z4, z5, z6, z7, z8, z9, x0, x1, hh⟩ := (show w4.cell? ⟨w.heap.size, 0, none⟩ = some (.int .i64 b) ∧ w4.cell? ⟨w.heap.size, 1, none⟩ = some (.int .i64 s) ∧ w4.cell? ⟨w.heap.size, 2, none⟩ = some (.int .i64 m) ∧ w4.cell? ⟨w.heap.size, 3, none⟩ = some (.int .i64 k) ∧ w4.cell? ⟨w.heap.size, 4, none⟩ = some (.int .i64 d) ∧ w4.cell? ⟨w.heap.size, 5, none⟩ = some (.int .i64 t) ∧ w4.cell? ⟨w.heap.size, 6, none⟩ = some (.int .i64 m') ∧ w4.cell? ⟨w.heap.size, 7, none⟩ = some (.int .i64 k') ∧ w4.cell? ⟨w.heap.size, 8, none⟩ = some (.int .i64 d') ∧ w4.cell? ⟨w.heap.size, 9, none⟩ = some (.int .i64 t') ∧ w4.cell? ⟨g, 0, none⟩ = some (.int .i64 u) ∧ w4.cell? ⟨g, 1, none⟩ = some (.int .i64 y) ∧ Below wr.heap.size wr w4 by assumption)
      have HH := Lib.hid hh
      clear hh
      go_wp2_with fail
      go_quiet (fail)
      go_wp2_with fail
      go_round
      case rel => exact ⟨1, by omega, by go_num, by simp, (HK.out.kept HH.out).drewN _, x0, x1, (HTT.out _ HH.out).drewN _, below_drewN (HB.out.trans (HH.out.mono HB.out.size)) _⟩
      case measure => simp [intOf]
    · rw [show decide (0 < 1) = true from rfl]
      go_wp2_with fail
      have HTT := Lib.hid (show ∀ W', Below wr.heap.size wr W' → Tab W' from fun W' h => htr.below h)
      have HK := Lib.hid hkz
      have HB := Lib.hid hB
      have HT0 := Lib.hid htr
      clear htr hkz hB
      go_region_held3 (fun w' => w'.cell? ⟨w.heap.size, 0, none⟩ = some (.int .i64 b) ∧ w'.cell? ⟨w.heap.size, 1, none⟩ = some (.int .i64 s) ∧ w'.cell? ⟨w.heap.size, 2, none⟩ = some (.int .i64 m) ∧ w'.cell? ⟨w.heap.size, 3, none⟩ = some (.int .i64 k) ∧ w'.cell? ⟨w.heap.size, 4, none⟩ = some (.int .i64 d) ∧ w'.cell? ⟨w.heap.size, 5, none⟩ = some (.int .i64 t) ∧ w'.cell? ⟨w.heap.size, 6, none⟩ = some (.int .i64 m') ∧ w'.cell? ⟨w.heap.size, 7, none⟩ = some (.int .i64 k') ∧ w'.cell? ⟨w.heap.size, 8, none⟩ = some (.int .i64 d') ∧ w'.cell? ⟨w.heap.size, 9, none⟩ = some (.int .i64 t') ∧ w'.cell? ⟨g, 0, none⟩ = some (.int .i64 u) ∧ w'.cell? ⟨g, 1, none⟩ = some (.int .i64 y) ∧ Below wr.heap.size wr w')
        (first
          | (exact ⟨z0, z1, z2, z3, z4, z5, z6, z7, z8, z9, x0, x1, (Below.refl _ _).drew⟩)
          | assumption
          | (refine keepY (by assumption) hb4 (Nat.le_refl _))
          | go_keep)
        (first
          | (go_at_call 46; refine (zlocal_ok _ _ _ _ _ _ _ _ _ _ _ p a1 b1 _ (by exact HTT.out _ (belowY (by assumption))) hry hp E2.out F2.out).mono ?_; rintro e w4 ⟨rfl, hb4⟩))
      clear z0 z1 z2 z3 z4 z5 z6 z7 z8 z9 x0 x1
      obtain ⟨z0, z1, z2, z3, z4, z5, z6, z7, z8, z9, x0, x1, hh⟩ := (show w4.cell? ⟨w.heap.size, 0, none⟩ = some (.int .i64 b) ∧ w4.cell? ⟨w.heap.size, 1, none⟩ = some (.int .i64 s) ∧ w4.cell? ⟨w.heap.size, 2, none⟩ = some (.int .i64 m) ∧ w4.cell? ⟨w.heap.size, 3, none⟩ = some (.int .i64 k) ∧ w4.cell? ⟨w.heap.size, 4, none⟩ = some (.int .i64 d) ∧ w4.cell? ⟨w.heap.size, 5, none⟩ = some (.int .i64 t) ∧ w4.cell? ⟨w.heap.size, 6, none⟩ = some (.int .i64 m') ∧ w4.cell? ⟨w.heap.size, 7, none⟩ = some (.int .i64 k') ∧ w4.cell? ⟨w.heap.size, 8, none⟩ = some (.int .i64 d') ∧ w4.cell? ⟨w.heap.size, 9, none⟩ = some (.int .i64 t') ∧ w4.cell? ⟨g, 0, none⟩ = some (.int .i64 u) ∧ w4.cell? ⟨g, 1, none⟩ = some (.int .i64 y) ∧ Below wr.heap.size wr w4 by assumption)
      have HH := Lib.hid hh
      clear hh
      go_wp2_with fail
      go_quiet (fail)
      go_wp2_with fail
      go_round
      case rel => exact ⟨2, by omega, by go_num, by simp, (HK.out.kept HH.out).drewN _, x0, x1, (HTT.out _ HH.out).drewN _, below_drewN (HB.out.trans (HH.out.mono HB.out.size)) _⟩
      case measure => simp [intOf]
    · rw [show decide (0 < 2) = true from rfl]
      go_wp2_with fail
      refine (awake6 _ htr).mono ?_; rintro e w4 ⟨rfl, hb⟩
      have HB := Lib.hid (hB.trans (hb.mono hB.size))
      clear hb hB
      go_wp2
      go_ret
      exact ⟨rfl, HB.out⟩

set_option maxRecDepth 100000 in
set_option maxHeartbeats 4000000 in
theorem zback_late (b s m k d t m' k' d' t' u q a1 b1 y p T : Int) (w : World) (ht : Tab w) (hz : zErr ⟨b, s, m, k, d, t, m', k', d', t'⟩ = 0) (hr : tErr ⟨b, s, m, k, d, t, m', k', d', t'⟩ u = 0) (hq : shiftV ⟨b, s, m, k, d, t, m', k', d', t'⟩ u = q) (e1 : ((u + b + q) / 1440 = a1)) (f1 : ((u + b + q) % 1440 = b1)) (hd : DayOk a1 b1) (hT : (a1 * 1440 + b1 - b = T)) (hx : instV ⟨b, s, m, k, d, t, m', k', d', t'⟩ T = [y, u]) (hlt : y < u) (hry : tErr ⟨b, s, m, k, d, t, m', k', d', t'⟩ y = 0) (hp : shiftV ⟨b, s, m, k, d, t, m', k', d', t'⟩ y = p) (e2 : (y + b + p) / 1440 = a1) (f2 : (y + b + p) % 1440 = b1) :
    Calls Tryd.prog 16 #[.agg #[.int .i64 b, .int .i64 s, .int .i64 m, .int .i64 k, .int .i64 d, .int .i64 t, .int .i64 m', .int .i64 k', .int .i64 d', .int .i64 t'], .int .i64 u] w fun e w' => e = .returned (.bool true) ∧ Below w.heap.size w w' := by
  have hA := (Below.refl w.heap.size w).alloc (Nat.le_refl _) (.cells #[.int .i64 b, .int .i64 s, .int .i64 m, .int .i64 k, .int .i64 d, .int .i64 t, .int .i64 m', .int .i64 k', .int .i64 d', .int .i64 t'] 49)
  have kA := BlockIs.new w #[.int .i64 b, .int .i64 s, .int .i64 m, .int .i64 k, .int .i64 d, .int .i64 t, .int .i64 m', .int .i64 k', .int .i64 d', .int .i64 t'] 49
  have htA := ht.below hA
  have E1 := Lib.hid e1
  have F1 := Lib.hid f1
  have E2 := Lib.hid e2
  have F2 := Lib.hid f2
  have HT := Lib.hid hT
  have hle : decide (u ≤ y) = false := by simp; omega
  have hbe : (y == u) = false := beq_eq_false_iff_ne.2 (by omega)
  have uu := tErr_0 hr
  have yy := tErr_0 hry
  obtain ⟨_, uu1, uu2⟩ := uu
  obtain ⟨_, yy1, yy2⟩ := yy
  clear e1 f1 e2 f2 hT
  go_enter Tryd.func16, Tryd.ntmps16
  go_wp2_with fail
  refine (zlocal_ok _ _ _ _ _ _ _ _ _ _ u q a1 b1 _ htA hr hq E1.out F1.out).mono ?_; rintro e w1 ⟨rfl, hb⟩
  have k1 := kA.kept hb
  have h1 := hA.trans (hb.mono hA.size)
  have ht1 := htA.below hb
  clear hb kA hA htA
  obtain ⟨z0, z1, z2, z3, z4, z5, z6, z7, z8, z9⟩ := zone_cells k1
  go_wp2_with fail
  refine (zinst_ok _ _ _ _ _ _ _ _ _ _ a1 b1 _ [y, u] _ ht1 hz hd HT.out hx).mono ?_; rintro e w2 ⟨out, rfl, ro, hb⟩
  have k2 := k1.kept hb
  have h2 := h1.trans (hb.mono h1.size)
  have ht2 := ht1.below hb
  clear hb k1 h1 ht1 z0 z1 z2 z3 z4 z5 z6 z7 z8 z9
  obtain ⟨g, cap, rfl, x0, x1⟩ := row_some ro
  simp only [List.length_cons, List.length_nil, Nat.zero_add, Nat.reduceAdd]
  clear ro
  obtain ⟨z0, z1, z2, z3, z4, z5, z6, z7, z8, z9⟩ := zone_cells k2
  go_wp2_with fail
  have x1 := x1 _ rfl
  go_loopw [10, 11, 12, 13, 14] (fun met x _ _ _ wr => ∃ i : Nat, i ≤ 2 ∧ x = .int .i64 (i : Int) ∧ met = .bool (decide (1 < i)) ∧ BlockIs wr w.heap.size #[.int .i64 b, .int .i64 s, .int .i64 m, .int .i64 k, .int .i64 d, .int .i64 t, .int .i64 m', .int .i64 k', .int .i64 d', .int .i64 t'] 49 ∧ wr.cell? ⟨g, 0, none⟩ = some (.int .i64 y) ∧ wr.cell? ⟨g, 1, none⟩ = some (.int .i64 u) ∧ Tab wr ∧ Below w.heap.size w wr) (fun _ x _ _ _ _ => (2 - intOf x).toNat)
  case atStart => exact ⟨0, by omega, rfl, rfl, k2, x0, x1, ht2, h2⟩
  case round =>
    clear z0 z1 z2 z3 z4 z5 z6 z7 z8 z9 x0 x1 k2 ht2 h2
    obtain ⟨i, hi, rfl, rfl, hkz, x0, x1, htr, hB⟩ := hrel
    obtain ⟨z0, z1, z2, z3, z4, z5, z6, z7, z8, z9⟩ := zone_cells hkz
    have hi2 : (i = 0 ∧ (i : Int) = 0) ∨ (i = 1 ∧ (i : Int) = 1) ∨ (i = 2 ∧ (i : Int) = 2) := by omega
    rcases hi2 with ⟨e, e'⟩ | ⟨e, e'⟩ | ⟨e, e'⟩ <;> rw [e'] <;> clear e' <;> subst e
    · rw [show decide (1 < 0) = false from rfl]
      go_wp2_with fail
      have HTT := Lib.hid (show ∀ W', Below wr.heap.size wr W' → Tab W' from fun W' h => htr.below h)
      have HK := Lib.hid hkz
      have HB := Lib.hid hB
      have HT0 := Lib.hid htr
      clear htr hkz hB
      go_region_held3 (fun w' => w'.cell? ⟨w.heap.size, 0, none⟩ = some (.int .i64 b) ∧ w'.cell? ⟨w.heap.size, 1, none⟩ = some (.int .i64 s) ∧ w'.cell? ⟨w.heap.size, 2, none⟩ = some (.int .i64 m) ∧ w'.cell? ⟨w.heap.size, 3, none⟩ = some (.int .i64 k) ∧ w'.cell? ⟨w.heap.size, 4, none⟩ = some (.int .i64 d) ∧ w'.cell? ⟨w.heap.size, 5, none⟩ = some (.int .i64 t) ∧ w'.cell? ⟨w.heap.size, 6, none⟩ = some (.int .i64 m') ∧ w'.cell? ⟨w.heap.size, 7, none⟩ = some (.int .i64 k') ∧ w'.cell? ⟨w.heap.size, 8, none⟩ = some (.int .i64 d') ∧ w'.cell? ⟨w.heap.size, 9, none⟩ = some (.int .i64 t') ∧ w'.cell? ⟨g, 0, none⟩ = some (.int .i64 y) ∧ w'.cell? ⟨g, 1, none⟩ = some (.int .i64 u) ∧ Below wr.heap.size wr w')
        (first
          | (exact ⟨z0, z1, z2, z3, z4, z5, z6, z7, z8, z9, x0, x1, (Below.refl _ _).drew⟩)
          | assumption
          | (refine keepY (by assumption) hb4 (Nat.le_refl _))
          | go_keep)
        (first
          | (go_at_call 46; refine (zlocal_ok _ _ _ _ _ _ _ _ _ _ _ p a1 b1 _ (by exact HTT.out _ (belowY (by assumption))) hry hp E2.out F2.out).mono ?_; rintro e w4 ⟨rfl, hb4⟩))
      clear z0 z1 z2 z3 z4 z5 z6 z7 z8 z9 x0 x1
      obtain ⟨z0, z1, z2, z3, z4, z5, z6, z7, z8, z9, x0, x1, hh⟩ := (show w4.cell? ⟨w.heap.size, 0, none⟩ = some (.int .i64 b) ∧ w4.cell? ⟨w.heap.size, 1, none⟩ = some (.int .i64 s) ∧ w4.cell? ⟨w.heap.size, 2, none⟩ = some (.int .i64 m) ∧ w4.cell? ⟨w.heap.size, 3, none⟩ = some (.int .i64 k) ∧ w4.cell? ⟨w.heap.size, 4, none⟩ = some (.int .i64 d) ∧ w4.cell? ⟨w.heap.size, 5, none⟩ = some (.int .i64 t) ∧ w4.cell? ⟨w.heap.size, 6, none⟩ = some (.int .i64 m') ∧ w4.cell? ⟨w.heap.size, 7, none⟩ = some (.int .i64 k') ∧ w4.cell? ⟨w.heap.size, 8, none⟩ = some (.int .i64 d') ∧ w4.cell? ⟨w.heap.size, 9, none⟩ = some (.int .i64 t') ∧ w4.cell? ⟨g, 0, none⟩ = some (.int .i64 y) ∧ w4.cell? ⟨g, 1, none⟩ = some (.int .i64 u) ∧ Below wr.heap.size wr w4 by assumption)
      have HH := Lib.hid hh
      clear hh
      go_wp2_with fail
      go_quiet (fail)
      go_wp2_with fail
      go_round
      case rel => exact ⟨1, by omega, by go_num, by simp, (HK.out.kept HH.out).drewN _, x0, x1, (HTT.out _ HH.out).drewN _, below_drewN (HB.out.trans (HH.out.mono HB.out.size)) _⟩
      case measure => simp [intOf]
    · rw [show decide (1 < 1) = false from rfl]
      go_wp2_with fail
      have HTT := Lib.hid (show ∀ W', Below wr.heap.size wr W' → Tab W' from fun W' h => htr.below h)
      have HK := Lib.hid hkz
      have HB := Lib.hid hB
      have HT0 := Lib.hid htr
      clear htr hkz hB
      go_region_held3 (fun w' => w'.cell? ⟨w.heap.size, 0, none⟩ = some (.int .i64 b) ∧ w'.cell? ⟨w.heap.size, 1, none⟩ = some (.int .i64 s) ∧ w'.cell? ⟨w.heap.size, 2, none⟩ = some (.int .i64 m) ∧ w'.cell? ⟨w.heap.size, 3, none⟩ = some (.int .i64 k) ∧ w'.cell? ⟨w.heap.size, 4, none⟩ = some (.int .i64 d) ∧ w'.cell? ⟨w.heap.size, 5, none⟩ = some (.int .i64 t) ∧ w'.cell? ⟨w.heap.size, 6, none⟩ = some (.int .i64 m') ∧ w'.cell? ⟨w.heap.size, 7, none⟩ = some (.int .i64 k') ∧ w'.cell? ⟨w.heap.size, 8, none⟩ = some (.int .i64 d') ∧ w'.cell? ⟨w.heap.size, 9, none⟩ = some (.int .i64 t') ∧ w'.cell? ⟨g, 0, none⟩ = some (.int .i64 y) ∧ w'.cell? ⟨g, 1, none⟩ = some (.int .i64 u) ∧ Below wr.heap.size wr w')
        (first
          | (exact ⟨z0, z1, z2, z3, z4, z5, z6, z7, z8, z9, x0, x1, (Below.refl _ _).drew⟩)
          | assumption
          | (refine keepY (by assumption) hb4 (Nat.le_refl _))
          | go_keep)
        (first
          | (go_at_call 46; refine (zlocal_ok _ _ _ _ _ _ _ _ _ _ _ q a1 b1 _ (by exact HTT.out _ (belowY (by assumption))) hr hq E1.out F1.out).mono ?_; rintro e w4 ⟨rfl, hb4⟩))
      clear z0 z1 z2 z3 z4 z5 z6 z7 z8 z9 x0 x1
      obtain ⟨z0, z1, z2, z3, z4, z5, z6, z7, z8, z9, x0, x1, hh⟩ := (show w4.cell? ⟨w.heap.size, 0, none⟩ = some (.int .i64 b) ∧ w4.cell? ⟨w.heap.size, 1, none⟩ = some (.int .i64 s) ∧ w4.cell? ⟨w.heap.size, 2, none⟩ = some (.int .i64 m) ∧ w4.cell? ⟨w.heap.size, 3, none⟩ = some (.int .i64 k) ∧ w4.cell? ⟨w.heap.size, 4, none⟩ = some (.int .i64 d) ∧ w4.cell? ⟨w.heap.size, 5, none⟩ = some (.int .i64 t) ∧ w4.cell? ⟨w.heap.size, 6, none⟩ = some (.int .i64 m') ∧ w4.cell? ⟨w.heap.size, 7, none⟩ = some (.int .i64 k') ∧ w4.cell? ⟨w.heap.size, 8, none⟩ = some (.int .i64 d') ∧ w4.cell? ⟨w.heap.size, 9, none⟩ = some (.int .i64 t') ∧ w4.cell? ⟨g, 0, none⟩ = some (.int .i64 y) ∧ w4.cell? ⟨g, 1, none⟩ = some (.int .i64 u) ∧ Below wr.heap.size wr w4 by assumption)
      have HH := Lib.hid hh
      clear hh
      go_wp2_with fail
      go_quiet (fail)
      go_wp2_with fail
      go_round
      case rel => exact ⟨2, by omega, by go_num, by simp, (HK.out.kept HH.out).drewN _, x0, x1, (HTT.out _ HH.out).drewN _, below_drewN (HB.out.trans (HH.out.mono HB.out.size)) _⟩
      case measure => simp [intOf]
    · rw [show decide (1 < 2) = true from rfl]
      go_wp2_with fail
      refine (awake6 _ htr).mono ?_; rintro e w4 ⟨rfl, hb⟩
      have HB := Lib.hid (hB.trans (hb.mono hB.size))
      clear hb hB
      go_wp2
      go_ret
      exact ⟨rfl, HB.out⟩

end Go.Proofs.YtdjfmcomeaijgaaDoor
