/- zone.shift: by how much clocks are shifted. -/
import Derived.Test.YtdjfmcomeaijgaaDoorZ4
import Derived.Deep.RegionHeld3
namespace Go.Proofs.YtdjfmcomeaijgaaDoor
open Go.RowKit
set_option linter.unusedVariables false
set_option linter.unusedSimpArgs false

/-- An instant whose day has a date, wherever the place. -/
def Tm (t : Int) : Prop := 560000 ≤ t ∧ t ≤ 5258900000
/-- By how much clocks are shifted at an instant. -/
def shiftV (z : Zn) (u : Int) : Int :=
  if z.s = 0 then 0
  else if (whenV z.b z.m z.k z.d z.t (yOf ((u + z.b) / 1440)) < whenV z.b z.m' z.k' z.d' z.t' (yOf ((u + z.b) / 1440)) ∧ whenV z.b z.m z.k z.d z.t (yOf ((u + z.b) / 1440)) ≤ u ∧ u < whenV z.b z.m' z.k' z.d' z.t' (yOf ((u + z.b) / 1440))) ∨
      (whenV z.b z.m' z.k' z.d' z.t' (yOf ((u + z.b) / 1440)) < whenV z.b z.m z.k z.d z.t (yOf ((u + z.b) / 1440)) ∧ (u < whenV z.b z.m' z.k' z.d' z.t' (yOf ((u + z.b) / 1440)) ∨ whenV z.b z.m z.k z.d z.t (yOf ((u + z.b) / 1440)) ≤ u)) then z.s else 0

/-- Eleven cells that are held, and a world that has grown since. -/
theorem keepZ {p q : Nat} {v0 v1 v2 v3 v4 v5 v6 v7 v8 v9 y : Value} {n : Nat} {w0 W w2 : World} (h : W.cell? ⟨p, 0, none⟩ = some v0 ∧ W.cell? ⟨p, 1, none⟩ = some v1 ∧ W.cell? ⟨p, 2, none⟩ = some v2 ∧ W.cell? ⟨p, 3, none⟩ = some v3 ∧ W.cell? ⟨p, 4, none⟩ = some v4 ∧ W.cell? ⟨p, 5, none⟩ = some v5 ∧ W.cell? ⟨p, 6, none⟩ = some v6 ∧ W.cell? ⟨p, 7, none⟩ = some v7 ∧ W.cell? ⟨p, 8, none⟩ = some v8 ∧ W.cell? ⟨p, 9, none⟩ = some v9 ∧ W.cell? ⟨q, 0, none⟩ = some y ∧ Below n w0 W) (hb : Below W.heap.size W w2) (hn : n ≤ w0.heap.size) :
    w2.cell? ⟨p, 0, none⟩ = some v0 ∧ w2.cell? ⟨p, 1, none⟩ = some v1 ∧ w2.cell? ⟨p, 2, none⟩ = some v2 ∧ w2.cell? ⟨p, 3, none⟩ = some v3 ∧ w2.cell? ⟨p, 4, none⟩ = some v4 ∧ w2.cell? ⟨p, 5, none⟩ = some v5 ∧ w2.cell? ⟨p, 6, none⟩ = some v6 ∧ w2.cell? ⟨p, 7, none⟩ = some v7 ∧ w2.cell? ⟨p, 8, none⟩ = some v8 ∧ w2.cell? ⟨p, 9, none⟩ = some v9 ∧ w2.cell? ⟨q, 0, none⟩ = some y ∧ Below n w0 w2 := by
  obtain ⟨h0, h1, h2, h3, h4, h5, h6, h7, h8, h9, hy, hB⟩ := h
  have hs := hB.size
  have g : ∀ {b o : Nat} {v : Value}, W.cell? ⟨b, o, none⟩ = some v → w2.cell? ⟨b, o, none⟩ = some v := fun {b o v} x => (hb.cell (p := ⟨b, o, none⟩) (World.block_lt_of_cell? W _ x)).trans x
  exact ⟨g h0, g h1, g h2, g h3, g h4, g h5, g h6, g h7, g h8, g h9, g hy, hB.trans (hb.mono (by omega))⟩

theorem belowZ {a0 a1 a2 a3 a4 a5 a6 a7 a8 a9 a10 a11 : Prop} (h : a0 ∧ a1 ∧ a2 ∧ a3 ∧ a4 ∧ a5 ∧ a6 ∧ a7 ∧ a8 ∧ a9 ∧ a10 ∧ a11) : a11 := h.2.2.2.2.2.2.2.2.2.2.2

set_option maxHeartbeats 2000000 in
theorem zshift_ok (b s m k d t m' k' d' t' u r : Int) (w : World) (ht : Tab w) (hu : Tm u) (hz : zErr ⟨b, s, m, k, d, t, m', k', d', t'⟩ = 0) (hb1 : -720 ≤ b) (hb2 : b ≤ 840) (h1 : s ≠ 0 → tOk m k d t = true) (h2 : s ≠ 0 → tOk m' k' d' t' = true) (hr : shiftV ⟨b, s, m, k, d, t, m', k', d', t'⟩ u = r) :
    Calls Tryd.prog 68 #[.agg #[.int .i64 b, .int .i64 s, .int .i64 m, .int .i64 k, .int .i64 d, .int .i64 t, .int .i64 m', .int .i64 k', .int .i64 d', .int .i64 t'], .int .i64 u] w fun e w' => e = .returned (.int .i64 r) ∧ Below w.heap.size w w' := by
  have HR := Lib.hid hr
  clear hr
  have hA := (Below.refl w.heap.size w).alloc (Nat.le_refl _) (.cells #[.int .i64 b, .int .i64 s, .int .i64 m, .int .i64 k, .int .i64 d, .int .i64 t, .int .i64 m', .int .i64 k', .int .i64 d', .int .i64 t'] 49)
  have kz := BlockIs.new w #[.int .i64 b, .int .i64 s, .int .i64 m, .int .i64 k, .int .i64 d, .int .i64 t, .int .i64 m', .int .i64 k', .int .i64 d', .int .i64 t'] 49
  by_cases c : s = 0
  · have H := Lib.hid (HR.out.symm.trans (show shiftV ⟨b, s, m, k, d, t, m', k', d', t'⟩ u = 0 by unfold shiftV; rw [if_pos c]))
    have hc : (s == 0) = true := beq_iff_eq.2 c
    clear c h1 h2
    go_enter Tryd.func68, Tryd.ntmps68
    go_wp2_with fail
    go_ret
    exact ⟨one H.out.symm, hA⟩
  · have o1 := Lib.hid (h1 c)
    have o2 := Lib.hid (h2 c)
    have hc : (s == 0) = false := beq_eq_false_iff_ne.2 c
    have ht1 := ht.below hA
    obtain ⟨u1, u2⟩ := hu
    have n1 : 1 ≤ (u + b) / 1440 := by omega
    have n2 : (u + b) / 1440 ≤ 3652059 := by omega
    have hyr := yr_of n1 n2
    clear h1 h2
    go_enter Tryd.func68, Tryd.ntmps68
    go_wp2_with fail
    refine (div_ok _ _ _ (by omega) (by unfold I64; omega)).mono ?_; rintro e w' ⟨rfl, rfl⟩
    go_wp2_with fail
    refine (gof_ok _ _ ht1 n1 n2).mono ?_; rintro e w1 ⟨rfl, hb⟩
    have hB1 := hA.trans (hb.mono hA.size)
    have hB2 := hB1.alloc hB1.size (.cells #[.int .i64 (yOf ((u + b) / 1440)), .int .i64 (mOf ((u + b) / 1440)), .int .i64 (dOf ((u + b) / 1440))] 23)
    have ht2 := (ht1.below hb).alloc (.cells #[.int .i64 (yOf ((u + b) / 1440)), .int .i64 (mOf ((u + b) / 1440)), .int .i64 (dOf ((u + b) / 1440))] 23)
    have kz2 := (kz.kept hb).alloc (.cells #[.int .i64 (yOf ((u + b) / 1440)), .int .i64 (mOf ((u + b) / 1440)), .int .i64 (dOf ((u + b) / 1440))] 23)
    have kd := BlockIs.new w1 #[.int .i64 (yOf ((u + b) / 1440)), .int .i64 (mOf ((u + b) / 1440)), .int .i64 (dOf ((u + b) / 1440))] 23
    clear hb hB1 kz
    go_wp2_with fail
    have H := Lib.hid (HR.out.symm.trans (show shiftV ⟨b, s, m, k, d, t, m', k', d', t'⟩ u = _ by unfold shiftV; rw [if_neg c]))
    dsimp only at H
    generalize yOf ((u + b) / 1440) = Y at *
    generalize (w1.alloc (.cells #[.int .i64 Y, .int .i64 (mOf ((u + b) / 1440)), .int .i64 (dOf ((u + b) / 1440))] 23)) = W0 at *
    have z0 : W0.cell? ⟨w.heap.size, 0, none⟩ = some (.int .i64 b) := kz2.cell rfl
    have z1 : W0.cell? ⟨w.heap.size, 1, none⟩ = some (.int .i64 s) := kz2.cell rfl
    have z2 : W0.cell? ⟨w.heap.size, 2, none⟩ = some (.int .i64 m) := kz2.cell rfl
    have z3 : W0.cell? ⟨w.heap.size, 3, none⟩ = some (.int .i64 k) := kz2.cell rfl
    have z4 : W0.cell? ⟨w.heap.size, 4, none⟩ = some (.int .i64 d) := kz2.cell rfl
    have z5 : W0.cell? ⟨w.heap.size, 5, none⟩ = some (.int .i64 t) := kz2.cell rfl
    have z6 : W0.cell? ⟨w.heap.size, 6, none⟩ = some (.int .i64 m') := kz2.cell rfl
    have z7 : W0.cell? ⟨w.heap.size, 7, none⟩ = some (.int .i64 k') := kz2.cell rfl
    have z8 : W0.cell? ⟨w.heap.size, 8, none⟩ = some (.int .i64 d') := kz2.cell rfl
    have z9 : W0.cell? ⟨w.heap.size, 9, none⟩ = some (.int .i64 t') := kz2.cell rfl
    have zy : W0.cell? ⟨w1.heap.size, 0, none⟩ = some (.int .i64 Y) := kd.cell rfl
    have HT := Lib.hid (show ∀ W', Below W0.heap.size W0 W' → Tab W' from fun W' h => ht2.below h)
    have HB := Lib.hid hB2
    clear hB2 ht2 kz2 kd HR hA ht1
    go_region_held3 (fun w' => w'.cell? ⟨w.heap.size, 0, none⟩ = some (.int .i64 b) ∧ w'.cell? ⟨w.heap.size, 1, none⟩ = some (.int .i64 s) ∧ w'.cell? ⟨w.heap.size, 2, none⟩ = some (.int .i64 m) ∧ w'.cell? ⟨w.heap.size, 3, none⟩ = some (.int .i64 k) ∧ w'.cell? ⟨w.heap.size, 4, none⟩ = some (.int .i64 d) ∧ w'.cell? ⟨w.heap.size, 5, none⟩ = some (.int .i64 t) ∧ w'.cell? ⟨w.heap.size, 6, none⟩ = some (.int .i64 m') ∧ w'.cell? ⟨w.heap.size, 7, none⟩ = some (.int .i64 k') ∧ w'.cell? ⟨w.heap.size, 8, none⟩ = some (.int .i64 d') ∧ w'.cell? ⟨w.heap.size, 9, none⟩ = some (.int .i64 t') ∧ w'.cell? ⟨w1.heap.size, 0, none⟩ = some (.int .i64 Y) ∧ Below W0.heap.size W0 w')
      (first
        | (exact ⟨z0, z1, z2, z3, z4, z5, z6, z7, z8, z9, zy, (Below.refl _ _).drew⟩)
        | assumption
        | (refine keepZ (by assumption) hb3 (Nat.le_refl _))
        | (refine keepZ (by assumption) hb4 (Nat.le_refl _))
        | go_keep)
      (first
        | (go_at_call 71; refine (zwhen_ok b s m k d t m' k' d' t' _ _ _ _ Y _ (by exact HT.out _ (belowZ (by assumption))) hyr.1 hyr.2.1 (by first | exact o1.out | exact o2.out) hb1 hb2).mono ?_; rintro e w3 ⟨rfl, hb3⟩))
    have hh : Below W0.heap.size W0 w3 := by exact belowZ (by assumption)
    have hB3 := Lib.hid (HB.out.trans (hh.mono HB.out.size))
    clear hh
    go_wp2
    all_goals
      go_ret
      refine ⟨one ?_, hB3.out⟩
      rw [H.out]
      split
      all_goals first
        | rfl
        | (exfalso; simp only [Bool.or_eq_true, Bool.and_eq_true, Bool.or_eq_false_iff, Bool.and_eq_false_iff, Bool.not_eq_true', Bool.not_eq_false', decide_eq_true_eq, decide_eq_false_iff_not] at *; omega)
        | (exfalso; omega)

end Go.Proofs.YtdjfmcomeaijgaaDoor
