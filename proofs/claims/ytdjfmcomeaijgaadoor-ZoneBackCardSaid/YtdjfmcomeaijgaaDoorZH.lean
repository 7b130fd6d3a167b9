/- The example of chapter 6. -/
import Derived.Test.YtdjfmcomeaijgaaDoorZG
import Derived.Test.YtdjfmcomeaijgaaDoorZ9
namespace Go.Proofs.YtdjfmcomeaijgaaDoor
open Go Go.RowKit
set_option linter.unusedVariables false
set_option linter.unusedSimpArgs false

/-- Twelve cells that are held, and a world that has grown since. -/
theorem keepY {p q q2 o2 : Nat} {v0 v1 v2 v3 v4 v5 v6 v7 v8 v9 y y2 : Value} {n : Nat} {w0 W w2 : World} (h : W.cell? ⟨p, 0, none⟩ = some v0 ∧ W.cell? ⟨p, 1, none⟩ = some v1 ∧ W.cell? ⟨p, 2, none⟩ = some v2 ∧ W.cell? ⟨p, 3, none⟩ = some v3 ∧ W.cell? ⟨p, 4, none⟩ = some v4 ∧ W.cell? ⟨p, 5, none⟩ = some v5 ∧ W.cell? ⟨p, 6, none⟩ = some v6 ∧ W.cell? ⟨p, 7, none⟩ = some v7 ∧ W.cell? ⟨p, 8, none⟩ = some v8 ∧ W.cell? ⟨p, 9, none⟩ = some v9 ∧ W.cell? ⟨q, 0, none⟩ = some y ∧ W.cell? ⟨q2, o2, none⟩ = some y2 ∧ Below n w0 W) (hb : Below W.heap.size W w2) (hn : n ≤ w0.heap.size) :
    w2.cell? ⟨p, 0, none⟩ = some v0 ∧ w2.cell? ⟨p, 1, none⟩ = some v1 ∧ w2.cell? ⟨p, 2, none⟩ = some v2 ∧ w2.cell? ⟨p, 3, none⟩ = some v3 ∧ w2.cell? ⟨p, 4, none⟩ = some v4 ∧ w2.cell? ⟨p, 5, none⟩ = some v5 ∧ w2.cell? ⟨p, 6, none⟩ = some v6 ∧ w2.cell? ⟨p, 7, none⟩ = some v7 ∧ w2.cell? ⟨p, 8, none⟩ = some v8 ∧ w2.cell? ⟨p, 9, none⟩ = some v9 ∧ w2.cell? ⟨q, 0, none⟩ = some y ∧ w2.cell? ⟨q2, o2, none⟩ = some y2 ∧ Below n w0 w2 := by
  obtain ⟨h0, h1, h2, h3, h4, h5, h6, h7, h8, h9, hy, hy2, hB⟩ := h
  have hs := hB.size
  have g : ∀ {b o : Nat} {v : Value}, W.cell? ⟨b, o, none⟩ = some v → w2.cell? ⟨b, o, none⟩ = some v := fun {b o v} x => (hb.cell (p := ⟨b, o, none⟩) (World.block_lt_of_cell? W _ x)).trans x
  exact ⟨g h0, g h1, g h2, g h3, g h4, g h5, g h6, g h7, g h8, g h9, g hy, g hy2, hB.trans (hb.mono (by omega))⟩
theorem belowY {a0 a1 a2 a3 a4 a5 a6 a7 a8 a9 a10 a11 a12 : Prop} (h : a0 ∧ a1 ∧ a2 ∧ a3 ∧ a4 ∧ a5 ∧ a6 ∧ a7 ∧ a8 ∧ a9 ∧ a10 ∧ a11 ∧ a12) : a12 := h.2.2.2.2.2.2.2.2.2.2.2.2
theorem row_nil {w : World} {v : Value} (h : RowV w v []) : ∃ p cap, v = .slice p 0 cap := by
  rcases h with ⟨_, e⟩ | ⟨g, cap, e, _⟩
  · exact ⟨_, _, e⟩
  · exact ⟨_, _, e⟩
theorem row_some {w : World} {v : Value} {x : Int} {xs : List Int} (h : RowV w v (x :: xs)) : ∃ g cap, v = .slice (some ⟨g, 0, none⟩) (xs.length + 1) cap ∧ w.cell? ⟨g, 0, none⟩ = some (.int .i64 x) ∧ (∀ y, xs[0]? = some y → w.cell? ⟨g, 1, none⟩ = some (.int .i64 y)) := by
  rcases h with ⟨e, _⟩ | ⟨g, cap, e, h⟩
  · cases e
  · exact ⟨g, cap, by rw [e]; rfl, h 0 x rfl, fun y hy => h 1 y (by simpa using hy)⟩

set_option maxHeartbeats 4000000 in
theorem awake6 (w : World) (ht : Tab w) : Calls Tryd.prog 42 #[] w fun e w' => e = .returned (.bool true) ∧ Below w.heap.size w w' := by
  have hz : zErr ⟨60, 60, 3, 5, 0, 120, 10, 5, 0, 120⟩ = 0 := by decide +kernel
  have i1 : instV ⟨60, 60, 3, 5, 0, 120, 10, 5, 0, 120⟩ (738605 * 1440 + 179 - 60) = [] := by decide +kernel
  have i2 : instV ⟨60, 60, 3, 5, 0, 120, 10, 5, 0, 120⟩ (738822 * 1440 + 120 - 60) = [1063903680, 1063903740] := by decide +kernel
  have i3 : instV ⟨60, 60, 3, 5, 0, 120, 10, 5, 0, 120⟩ (738605 * 1440 + 180 - 60) = [1063591260] := by decide +kernel
  have e3 : tErr ⟨60, 60, 3, 5, 0, 120, 10, 5, 0, 120⟩ 1063591260 = 0 := by decide +kernel
  have s3 : shiftV ⟨60, 60, 3, 5, 0, 120, 10, 5, 0, 120⟩ 1063591260 = 60 := by decide +kernel
  go_enter Tryd.func42, Tryd.ntmps42
  go_wp2_with fail
  have hA := (Below.refl w.heap.size w).alloc (Nat.le_refl _) (.cells #[.int .i64 60, .int .i64 60, .int .i64 3, .int .i64 5, .int .i64 0, .int .i64 120, .int .i64 10, .int .i64 5, .int .i64 0, .int .i64 120] 49)
  have kz := BlockIs.new w #[.int .i64 60, .int .i64 60, .int .i64 3, .int .i64 5, .int .i64 0, .int .i64 120, .int .i64 10, .int .i64 5, .int .i64 0, .int .i64 120] 49
  have ht1 := ht.below hA
  refine (zinst_ok 60 60 3 5 0 120 10 5 0 120 738605 179 _ _ _ ht1 hz (by decide) rfl i1).mono ?_; rintro e w1 ⟨out1, rfl, r1, hb⟩
  have k1 := kz.kept hb
  have hB1 := hA.trans (hb.mono hA.size)
  have ht2 := ht1.below hb
  obtain ⟨p1, cap1, rfl⟩ := row_nil r1
  clear hb kz hA ht1 r1
  obtain ⟨z0, z1, z2, z3, z4, z5, z6, z7, z8, z9⟩ := zone_cells k1
  go_wp2_with fail
  refine (zinst_ok 60 60 3 5 0 120 10 5 0 120 738822 120 _ _ _ ht2 hz (by decide) rfl i2).mono ?_; rintro e w2 ⟨out2, rfl, r2, hb⟩
  have k2 := k1.kept hb
  have hB2 := hB1.trans (hb.mono hB1.size)
  have ht3 := ht2.below hb
  clear hb k1 hB1 ht2 z0 z1 z2 z3 z4 z5 z6 z7 z8 z9
  obtain ⟨z0, z1, z2, z3, z4, z5, z6, z7, z8, z9⟩ := zone_cells k2
  obtain ⟨g2, cap2, rfl, x20, x21⟩ := row_some r2
  have x21 := x21 _ rfl
  clear r2
  go_wp2_with fail
  refine (zinst_ok 60 60 3 5 0 120 10 5 0 120 738605 180 _ _ _ ht3 hz (by decide) rfl i3).mono ?_; rintro e w3 ⟨out3, rfl, r3, hb⟩
  have k3 := k2.kept hb
  have hB3 := hB2.trans (hb.mono hB2.size)
  have ht4 := ht3.below hb
  have x20 : w3.cell? ⟨g2, 0, none⟩ = some (.int .i64 1063903680) := (hb.cell (p := ⟨g2, 0, none⟩) (World.block_lt_of_cell? w2 _ x20)).trans x20
  have x21 : w3.cell? ⟨g2, 1, none⟩ = some (.int .i64 1063903740) := (hb.cell (p := ⟨g2, 1, none⟩) (World.block_lt_of_cell? w2 _ x21)).trans x21
  clear hb k2 hB2 ht3 z0 z1 z2 z3 z4 z5 z6 z7 z8 z9
  obtain ⟨z0, z1, z2, z3, z4, z5, z6, z7, z8, z9⟩ := zone_cells k3
  obtain ⟨g3, cap3, rfl, x30, _⟩ := row_some r3
  clear r3
  simp only [List.length_cons, List.length_nil]
  go_wp2_with fail
  have HT := Lib.hid (show ∀ W', Below w3.heap.size w3 W' → Tab W' from fun W' h => ht4.below h)
  have hL := Lib.hid (show ∀ W : World, Tab W → Calls Tryd.prog 46 #[.agg #[.int .i64 60, .int .i64 60, .int .i64 3, .int .i64 5, .int .i64 0, .int .i64 120, .int .i64 10, .int .i64 5, .int .i64 0, .int .i64 120], .int .i64 1063591260] W fun e w' => e = .returned (.tuple #[.int .i64 738605, .int .i64 180, .int .i64 0]) ∧ Below W.heap.size W w' from fun W hW => zlocal_ok 60 60 3 5 0 120 10 5 0 120 1063591260 60 738605 180 W hW e3 s3 (by decide) (by decide))
  have hS := Lib.hid (show ∀ W : World, Tab W → Calls Tryd.prog 45 #[.agg #[.int .i64 60, .int .i64 60, .int .i64 3, .int .i64 5, .int .i64 0, .int .i64 120, .int .i64 10, .int .i64 5, .int .i64 0, .int .i64 120], .int .i64 1063591260] W fun e w' => e = .returned (.tuple #[.bool true, .int .i64 0]) ∧ Below W.heap.size W w' from fun W hW => zsummer_ok 60 60 3 5 0 120 10 5 0 120 1063591260 60 W hW e3 (by decide) (by decide) s3)
  have hC := Lib.hid (show ∀ W : World, Calls Tryd.prog 43 #[.agg #[.int .i64 60, .int .i64 60, .int .i64 3, .int .i64 5, .int .i64 0, .int .i64 120, .int .i64 10, .int .i64 5, .int .i64 0, .int .i64 120]] W fun e w' => e = .returned (.int .i64 0) ∧ Below W.heap.size W w' from fun W => zcheck_any 60 60 3 5 0 120 10 5 0 120 0 W hz)
  clear ht4 e3 s3 hz i1 i2 i3 ht
  go_region_held3 (fun w' => w'.cell? ⟨w.heap.size, 0, none⟩ = some (.int .i64 60) ∧ w'.cell? ⟨w.heap.size, 1, none⟩ = some (.int .i64 60) ∧ w'.cell? ⟨w.heap.size, 2, none⟩ = some (.int .i64 3) ∧ w'.cell? ⟨w.heap.size, 3, none⟩ = some (.int .i64 5) ∧ w'.cell? ⟨w.heap.size, 4, none⟩ = some (.int .i64 0) ∧ w'.cell? ⟨w.heap.size, 5, none⟩ = some (.int .i64 120) ∧ w'.cell? ⟨w.heap.size, 6, none⟩ = some (.int .i64 10) ∧ w'.cell? ⟨w.heap.size, 7, none⟩ = some (.int .i64 5) ∧ w'.cell? ⟨w.heap.size, 8, none⟩ = some (.int .i64 0) ∧ w'.cell? ⟨w.heap.size, 9, none⟩ = some (.int .i64 120) ∧ w'.cell? ⟨g3, 0, none⟩ = some (.int .i64 1063591260) ∧ Below w3.heap.size w3 w')
    (first
      | (exact ⟨z0, z1, z2, z3, z4, z5, z6, z7, z8, z9, x30, (Below.refl _ _).drew⟩)
      | assumption
      | (refine keepZ (by assumption) hb4 (Nat.le_refl _))
      | go_keep)
    (first
      | (go_at_call 46; refine (hL.out _ (by exact HT.out _ (belowZ (by assumption)))).mono ?_; rintro e w4 ⟨rfl, hb4⟩))
  obtain ⟨z0, z1, z2, z3, z4, z5, z6, z7, z8, z9, x30, h34⟩ := (show w4.cell? ⟨w.heap.size, 0, none⟩ = some (.int .i64 60) ∧ w4.cell? ⟨w.heap.size, 1, none⟩ = some (.int .i64 60) ∧ w4.cell? ⟨w.heap.size, 2, none⟩ = some (.int .i64 3) ∧ w4.cell? ⟨w.heap.size, 3, none⟩ = some (.int .i64 5) ∧ w4.cell? ⟨w.heap.size, 4, none⟩ = some (.int .i64 0) ∧ w4.cell? ⟨w.heap.size, 5, none⟩ = some (.int .i64 120) ∧ w4.cell? ⟨w.heap.size, 6, none⟩ = some (.int .i64 10) ∧ w4.cell? ⟨w.heap.size, 7, none⟩ = some (.int .i64 5) ∧ w4.cell? ⟨w.heap.size, 8, none⟩ = some (.int .i64 0) ∧ w4.cell? ⟨w.heap.size, 9, none⟩ = some (.int .i64 120) ∧ w4.cell? ⟨g3, 0, none⟩ = some (.int .i64 1063591260) ∧ Below w3.heap.size w3 w4 by assumption)
  have x20 : w4.cell? ⟨g2, 0, none⟩ = some (.int .i64 1063903680) := (h34.cell (p := ⟨g2, 0, none⟩) (World.block_lt_of_cell? w3 _ x20)).trans x20
  have x21 : w4.cell? ⟨g2, 1, none⟩ = some (.int .i64 1063903740) := (h34.cell (p := ⟨g2, 1, none⟩) (World.block_lt_of_cell? w3 _ x21)).trans x21
  have HT4 := Lib.hid (show ∀ W', Below w4.heap.size w4 W' → Tab W' from fun W' h => HT.out W' (h34.trans (h.mono h34.size)))
  have hB4 := hB3.trans (h34.mono hB3.size)
  clear HT h34 hB3 k3
  go_wp2_with fail
  go_region_held3 (fun w' => w'.cell? ⟨w.heap.size, 0, none⟩ = some (.int .i64 60) ∧ w'.cell? ⟨w.heap.size, 1, none⟩ = some (.int .i64 60) ∧ w'.cell? ⟨w.heap.size, 2, none⟩ = some (.int .i64 3) ∧ w'.cell? ⟨w.heap.size, 3, none⟩ = some (.int .i64 5) ∧ w'.cell? ⟨w.heap.size, 4, none⟩ = some (.int .i64 0) ∧ w'.cell? ⟨w.heap.size, 5, none⟩ = some (.int .i64 120) ∧ w'.cell? ⟨w.heap.size, 6, none⟩ = some (.int .i64 10) ∧ w'.cell? ⟨w.heap.size, 7, none⟩ = some (.int .i64 5) ∧ w'.cell? ⟨w.heap.size, 8, none⟩ = some (.int .i64 0) ∧ w'.cell? ⟨w.heap.size, 9, none⟩ = some (.int .i64 120) ∧ w'.cell? ⟨g3, 0, none⟩ = some (.int .i64 1063591260) ∧ Below w4.heap.size w4 w')
    (first
      | (exact ⟨z0, z1, z2, z3, z4, z5, z6, z7, z8, z9, x30, (Below.refl _ _).drew⟩)
      | assumption
      | (refine keepZ (by assumption) hb5 (Nat.le_refl _))
      | go_keep)
    (first
      | (go_at_call 45; refine (hS.out _ (by exact HT4.out _ (belowZ (by assumption)))).mono ?_; rintro e w5 ⟨rfl, hb5⟩))
  obtain ⟨z0, z1, z2, z3, z4, z5, z6, z7, z8, z9, _, h45⟩ := (show w5.cell? ⟨w.heap.size, 0, none⟩ = some (.int .i64 60) ∧ w5.cell? ⟨w.heap.size, 1, none⟩ = some (.int .i64 60) ∧ w5.cell? ⟨w.heap.size, 2, none⟩ = some (.int .i64 3) ∧ w5.cell? ⟨w.heap.size, 3, none⟩ = some (.int .i64 5) ∧ w5.cell? ⟨w.heap.size, 4, none⟩ = some (.int .i64 0) ∧ w5.cell? ⟨w.heap.size, 5, none⟩ = some (.int .i64 120) ∧ w5.cell? ⟨w.heap.size, 6, none⟩ = some (.int .i64 10) ∧ w5.cell? ⟨w.heap.size, 7, none⟩ = some (.int .i64 5) ∧ w5.cell? ⟨w.heap.size, 8, none⟩ = some (.int .i64 0) ∧ w5.cell? ⟨w.heap.size, 9, none⟩ = some (.int .i64 120) ∧ w5.cell? ⟨g3, 0, none⟩ = some (.int .i64 1063591260) ∧ Below w4.heap.size w4 w5 by assumption)
  have x20 : w5.cell? ⟨g2, 0, none⟩ = some (.int .i64 1063903680) := (h45.cell (p := ⟨g2, 0, none⟩) (World.block_lt_of_cell? w4 _ x20)).trans x20
  have x21 : w5.cell? ⟨g2, 1, none⟩ = some (.int .i64 1063903740) := (h45.cell (p := ⟨g2, 1, none⟩) (World.block_lt_of_cell? w4 _ x21)).trans x21
  have HB5 := Lib.hid (hB4.trans (h45.mono hB4.size))
  clear HT4 h45 hB4
  go_wp2_with fail
  go_region_held3 (fun w' => w'.cell? ⟨w.heap.size, 0, none⟩ = some (.int .i64 60) ∧ w'.cell? ⟨w.heap.size, 1, none⟩ = some (.int .i64 60) ∧ w'.cell? ⟨w.heap.size, 2, none⟩ = some (.int .i64 3) ∧ w'.cell? ⟨w.heap.size, 3, none⟩ = some (.int .i64 5) ∧ w'.cell? ⟨w.heap.size, 4, none⟩ = some (.int .i64 0) ∧ w'.cell? ⟨w.heap.size, 5, none⟩ = some (.int .i64 120) ∧ w'.cell? ⟨w.heap.size, 6, none⟩ = some (.int .i64 10) ∧ w'.cell? ⟨w.heap.size, 7, none⟩ = some (.int .i64 5) ∧ w'.cell? ⟨w.heap.size, 8, none⟩ = some (.int .i64 0) ∧ w'.cell? ⟨w.heap.size, 9, none⟩ = some (.int .i64 120) ∧ w'.cell? ⟨g2, 0, none⟩ = some (.int .i64 1063903680) ∧ w'.cell? ⟨g2, 1, none⟩ = some (.int .i64 1063903740) ∧ Below w5.heap.size w5 w')
    (first
      | (exact ⟨z0, z1, z2, z3, z4, z5, z6, z7, z8, z9, x20, x21, (Below.refl _ _).drew⟩)
      | assumption
      | (refine keepY (by assumption) hb6 (Nat.le_refl _))
      | go_keep)
    (first
      | (go_at_call 43; refine (hC.out _).mono ?_; rintro e w6 ⟨rfl, hb6⟩))
  have hh : Below w5.heap.size w5 w6 := by exact belowY (by assumption)
  go_wp2
  go_ret
  exact ⟨rfl, HB5.out.trans (hh.mono HB5.out.size)⟩

end Go.Proofs.YtdjfmcomeaijgaaDoor
