/- ZoneMany: a minute is told at most twice: the walk. -/
import Derived.Test.YtdjfmcomeaijgaaDoorZH
namespace Go.Proofs.YtdjfmcomeaijgaaDoor
open Go Go.RowKit
set_option linter.unusedVariables false
set_option linter.unusedSimpArgs false

set_option maxHeartbeats 4000000 in
theorem zmany_plain (b s m k d t m' k' d' t' n u T : Int) (w : World) (ht : Tab w) (hz : zErr ⟨b, s, m, k, d, t, m', k', d', t'⟩ = 0) (hd : DayOk n u) (hT : n * 1440 + u - b = T) (hs0 : (s == 0) = true) (hx : instV ⟨b, s, m, k, d, t, m', k', d', t'⟩ T = [T]) (t1 : 576000 ≤ T) (t2 : T ≤ 5258879999) (sb1 : 0 ≤ s) (sb2 : s ≤ 120) (hb1 : -720 ≤ b) (hb2 : b ≤ 840) :
    Calls Tryd.prog 18 #[.agg #[.int .i64 b, .int .i64 s, .int .i64 m, .int .i64 k, .int .i64 d, .int .i64 t, .int .i64 m', .int .i64 k', .int .i64 d', .int .i64 t'], .int .i64 n, .int .i64 u] w fun e w' => e = .returned (.bool true) ∧ Below w.heap.size w w' := by
  have hA := (Below.refl w.heap.size w).alloc (Nat.le_refl _) (.cells #[.int .i64 b, .int .i64 s, .int .i64 m, .int .i64 k, .int .i64 d, .int .i64 t, .int .i64 m', .int .i64 k', .int .i64 d', .int .i64 t'] 49)
  have kA := BlockIs.new w #[.int .i64 b, .int .i64 s, .int .i64 m, .int .i64 k, .int .i64 d, .int .i64 t, .int .i64 m', .int .i64 k', .int .i64 d', .int .i64 t'] 49
  have htA := ht.below hA
  have d0 := hd
  obtain ⟨d1, d2, d3, d4⟩ := d0
  have hd := Lib.hid hd
  go_enter Tryd.func18, Tryd.ntmps18
  go_wp2_with fail
  refine (zinst_ok _ _ _ _ _ _ _ _ _ _ n u T _ _ htA hz hd.out hT hx).mono ?_; rintro e w1 ⟨out, rfl, ro, hb⟩
  have k1 := kA.kept hb
  have h1 := hA.trans (hb.mono hA.size)
  have ht1 := htA.below hb
  clear hb kA hA htA hx
  obtain ⟨z0, z1, z2, z3, z4, z5, z6, z7, z8, z9⟩ := zone_cells k1
  have ro2 := ro
  obtain ⟨g, cap1, rfl, x0, x1⟩ := row_some ro2
  clear ro2
  simp only [List.length_cons, List.length_nil, Nat.zero_add, Nat.reduceAdd] at ro ⊢
  have HB := Lib.hid h1
  have HT := Lib.hid (show ∀ W', Below w1.heap.size w1 W' → Tab W' from fun W' h => ht1.below h)
  clear k1 h1 ht1 ro
  go_wp2_with fail
  go_region_held3 (fun w' => w'.cell? ⟨w.heap.size, 0, none⟩ = some (.int .i64 b) ∧ w'.cell? ⟨w.heap.size, 1, none⟩ = some (.int .i64 s) ∧ w'.cell? ⟨w.heap.size, 2, none⟩ = some (.int .i64 m) ∧ w'.cell? ⟨w.heap.size, 3, none⟩ = some (.int .i64 k) ∧ w'.cell? ⟨w.heap.size, 4, none⟩ = some (.int .i64 d) ∧ w'.cell? ⟨w.heap.size, 5, none⟩ = some (.int .i64 t) ∧ w'.cell? ⟨w.heap.size, 6, none⟩ = some (.int .i64 m') ∧ w'.cell? ⟨w.heap.size, 7, none⟩ = some (.int .i64 k') ∧ w'.cell? ⟨w.heap.size, 8, none⟩ = some (.int .i64 d') ∧ w'.cell? ⟨w.heap.size, 9, none⟩ = some (.int .i64 t') ∧ w'.cell? ⟨g, 0, none⟩ = some (.int .i64 T) ∧ Below w1.heap.size w1 w')
    (first
      | (exact ⟨z0, z1, z2, z3, z4, z5, z6, z7, z8, z9, x0, (Below.refl _ _).drew⟩)
      | assumption
      | (refine keepZ (by assumption) hb4 (Nat.le_refl _))
      | go_keep)
    (first
      | (go_at_call 42; refine (awake6 _ (by exact HT.out _ (belowZ (by assumption)))).mono ?_; rintro e w4 ⟨rfl, hb4⟩))
  have hh : Below w1.heap.size w1 w4 := by exact belowZ (by assumption)
  go_wp2
  go_ret
  exact ⟨boolE (by rw [IntWalk.i64_in (n * 1440) ⟨by omega, by omega⟩, IntWalk.i64_in (n * 1440 + u) ⟨by omega, by omega⟩, IntWalk.i64_in (n * 1440 + u - b) ⟨by omega, by omega⟩]; exact beq_iff_eq.2 hT.symm), HB.out.trans (hh.mono HB.out.size)⟩

set_option maxHeartbeats 4000000 in
theorem zmany_two (b s m k d t m' k' d' t' n u T : Int) (w : World) (ht : Tab w) (hz : zErr ⟨b, s, m, k, d, t, m', k', d', t'⟩ = 0) (hd : DayOk n u) (hT : n * 1440 + u - b = T) (hs0 : (s == 0) = false) (hx : instV ⟨b, s, m, k, d, t, m', k', d', t'⟩ T = [T - s, T]) (t1 : 576000 ≤ T) (t2 : T ≤ 5258879999) (sb1 : 0 ≤ s) (sb2 : s ≤ 120) (hb1 : -720 ≤ b) (hb2 : b ≤ 840) :
    Calls Tryd.prog 18 #[.agg #[.int .i64 b, .int .i64 s, .int .i64 m, .int .i64 k, .int .i64 d, .int .i64 t, .int .i64 m', .int .i64 k', .int .i64 d', .int .i64 t'], .int .i64 n, .int .i64 u] w fun e w' => e = .returned (.bool true) ∧ Below w.heap.size w w' := by
  have hA := (Below.refl w.heap.size w).alloc (Nat.le_refl _) (.cells #[.int .i64 b, .int .i64 s, .int .i64 m, .int .i64 k, .int .i64 d, .int .i64 t, .int .i64 m', .int .i64 k', .int .i64 d', .int .i64 t'] 49)
  have kA := BlockIs.new w #[.int .i64 b, .int .i64 s, .int .i64 m, .int .i64 k, .int .i64 d, .int .i64 t, .int .i64 m', .int .i64 k', .int .i64 d', .int .i64 t'] 49
  have htA := ht.below hA
  have d0 := hd
  obtain ⟨d1, d2, d3, d4⟩ := d0
  have hd := Lib.hid hd
  go_enter Tryd.func18, Tryd.ntmps18
  go_wp2_with fail
  refine (zinst_ok _ _ _ _ _ _ _ _ _ _ n u T _ _ htA hz hd.out hT hx).mono ?_; rintro e w1 ⟨out, rfl, ro, hb⟩
  have k1 := kA.kept hb
  have h1 := hA.trans (hb.mono hA.size)
  have ht1 := htA.below hb
  clear hb kA hA htA hx
  obtain ⟨z0, z1, z2, z3, z4, z5, z6, z7, z8, z9⟩ := zone_cells k1
  have ro2 := ro
  obtain ⟨g, cap1, rfl, x0, x1⟩ := row_some ro2
  clear ro2
  simp only [List.length_cons, List.length_nil, Nat.zero_add, Nat.reduceAdd] at ro ⊢
  have HB := Lib.hid h1
  have HT := Lib.hid (show ∀ W', Below w1.heap.size w1 W' → Tab W' from fun W' h => ht1.below h)
  have x1 := x1 _ rfl
  clear k1 h1 ht1 ro
  go_wp2_with fail
  go_region_held3 (fun w' => w'.cell? ⟨w.heap.size, 0, none⟩ = some (.int .i64 b) ∧ w'.cell? ⟨w.heap.size, 1, none⟩ = some (.int .i64 s) ∧ w'.cell? ⟨w.heap.size, 2, none⟩ = some (.int .i64 m) ∧ w'.cell? ⟨w.heap.size, 3, none⟩ = some (.int .i64 k) ∧ w'.cell? ⟨w.heap.size, 4, none⟩ = some (.int .i64 d) ∧ w'.cell? ⟨w.heap.size, 5, none⟩ = some (.int .i64 t) ∧ w'.cell? ⟨w.heap.size, 6, none⟩ = some (.int .i64 m') ∧ w'.cell? ⟨w.heap.size, 7, none⟩ = some (.int .i64 k') ∧ w'.cell? ⟨w.heap.size, 8, none⟩ = some (.int .i64 d') ∧ w'.cell? ⟨w.heap.size, 9, none⟩ = some (.int .i64 t') ∧ w'.cell? ⟨g, 0, none⟩ = some (.int .i64 (T - s)) ∧ w'.cell? ⟨g, 1, none⟩ = some (.int .i64 T) ∧ Below w1.heap.size w1 w')
    (first
      | (exact ⟨z0, z1, z2, z3, z4, z5, z6, z7, z8, z9, x0, x1, (Below.refl _ _).drew⟩)
      | assumption
      | (refine keepY (by assumption) hb4 (Nat.le_refl _))
      | go_keep)
    (first
      | (go_at_call 42; refine (awake6 _ (by exact HT.out _ (belowY (by assumption)))).mono ?_; rintro e w4 ⟨rfl, hb4⟩))
  have hh : Below w1.heap.size w1 w4 := by exact belowY (by assumption)
  go_wp2
  go_ret
  exact ⟨boolE (by rw [IntWalk.i64_in (T - (T - s)) ⟨by omega, by omega⟩]; exact beq_iff_eq.2 (by omega)), HB.out.trans (hh.mono HB.out.size)⟩

set_option maxHeartbeats 4000000 in
theorem zmany_early (b s m k d t m' k' d' t' n u T : Int) (w : World) (ht : Tab w) (hz : zErr ⟨b, s, m, k, d, t, m', k', d', t'⟩ = 0) (hd : DayOk n u) (hT : n * 1440 + u - b = T) (hs0 : (s == 0) = false) (hx : instV ⟨b, s, m, k, d, t, m', k', d', t'⟩ T = [T - s]) (t1 : 576000 ≤ T) (t2 : T ≤ 5258879999) (sb1 : 0 ≤ s) (sb2 : s ≤ 120) (hb1 : -720 ≤ b) (hb2 : b ≤ 840) :
    Calls Tryd.prog 18 #[.agg #[.int .i64 b, .int .i64 s, .int .i64 m, .int .i64 k, .int .i64 d, .int .i64 t, .int .i64 m', .int .i64 k', .int .i64 d', .int .i64 t'], .int .i64 n, .int .i64 u] w fun e w' => e = .returned (.bool true) ∧ Below w.heap.size w w' := by
  have hA := (Below.refl w.heap.size w).alloc (Nat.le_refl _) (.cells #[.int .i64 b, .int .i64 s, .int .i64 m, .int .i64 k, .int .i64 d, .int .i64 t, .int .i64 m', .int .i64 k', .int .i64 d', .int .i64 t'] 49)
  have kA := BlockIs.new w #[.int .i64 b, .int .i64 s, .int .i64 m, .int .i64 k, .int .i64 d, .int .i64 t, .int .i64 m', .int .i64 k', .int .i64 d', .int .i64 t'] 49
  have htA := ht.below hA
  have d0 := hd
  obtain ⟨d1, d2, d3, d4⟩ := d0
  have hd := Lib.hid hd
  go_enter Tryd.func18, Tryd.ntmps18
  go_wp2_with fail
  refine (zinst_ok _ _ _ _ _ _ _ _ _ _ n u T _ _ htA hz hd.out hT hx).mono ?_; rintro e w1 ⟨out, rfl, ro, hb⟩
  have k1 := kA.kept hb
  have h1 := hA.trans (hb.mono hA.size)
  have ht1 := htA.below hb
  clear hb kA hA htA hx
  obtain ⟨z0, z1, z2, z3, z4, z5, z6, z7, z8, z9⟩ := zone_cells k1
  have ro2 := ro
  obtain ⟨g, cap1, rfl, x0, x1⟩ := row_some ro2
  clear ro2
  simp only [List.length_cons, List.length_nil, Nat.zero_add, Nat.reduceAdd] at ro ⊢
  have HB := Lib.hid h1
  have HT := Lib.hid (show ∀ W', Below w1.heap.size w1 W' → Tab W' from fun W' h => ht1.below h)
  clear k1 h1 ht1 ro
  go_wp2_with fail
  refine wp_region_held_drew (S := fun w' => Below w1.heap.size w1 w') (by kernel_rfl) ((Below.refl _ _).drew) (fun hHeld => ?_)
  refine wpAnyH_ready (rs := [0]) (by kernel_rfl) (by simp) ?_
  refine' AllReadyH.cons (o := { dst := some 46, op := Op.call { callee := Callee.value (Operand.func 42), args := #[], argTypes := #[] }, type := 4, pos := "law.go:107", after := #[], guard := none }) rfl (fun K hK => ?s0) AllReadyH.nil
  go_simp
  refine (awake6 _ (by exact HT.out _ hHeld)).mono ?_; rintro e w4 ⟨rfl, hb4⟩
  refine' hK.out _ _ ?h0 (fun hHeld => ?r0)
  case h0 => exact hHeld.trans (hb4.mono hHeld.size)
  clear hK K
  try simp only [Act.put, List.setIfInBounds_toArray, List.set_cons_zero, List.set_cons_succ]
  refine' wpAnyH_take (i := 1) (oi := { dst := some 47, op := Op.move (Operand.tmp 46), type := 4, pos := "law.go:107", after := #[{ on := 0, ground := Ground.data }, { on := 0, ground := Ground.chain }], guard := none }) (v := ?v1) rfl (by kernel_rfl) (by kernel_rfl) (by kernel_rfl) (fun _ _ _ h => h) (Or.inl ⟨?g1, ?y1⟩) (by assumption) ?r1
  case g1 => rfl
  case y1 => (intro w hSw; (try dsimp only at hSw); go_simp; all_goals (with_reducible rfl))
  try simp only [Act.put, List.setIfInBounds_toArray, List.set_cons_zero, List.set_cons_succ]
  refine' wpAnyH_take (i := 2) (oi := { dst := some 48, op := Op.move (Operand.tmp 7), type := 60, pos := "law.go:107", after := #[{ on := 1, ground := Ground.guard }], guard := some (1, true) }) (v := ?v2) rfl (by kernel_rfl) (by kernel_rfl) (by kernel_rfl) (fun _ _ _ h => h) (Or.inl ⟨?g2, ?y2⟩) (by assumption) ?r2
  case g2 => rfl
  case y2 => (intro w hSw; (try dsimp only at hSw); go_simp; all_goals (with_reducible rfl))
  try simp only [Act.put, List.setIfInBounds_toArray, List.set_cons_zero, List.set_cons_succ]
  refine' wpAnyH_take (i := 3) (oi := { dst := some 49, op := Op.call { callee := Callee.builtin Builtin.len, args := #[Operand.tmp 48], argTypes := #[60] }, type := 3, pos := "law.go:107", after := #[{ on := 2, ground := Ground.data }, { on := 1, ground := Ground.guard }], guard := some (1, true) }) (v := ?v3) rfl (by kernel_rfl) (by kernel_rfl) (by kernel_rfl) (fun _ _ _ h => h) (Or.inl ⟨?g3, ?y3⟩) (by assumption) ?r3
  case g3 => rfl
  case y3 => (intro w hSw; (try dsimp only at hSw); go_simp; all_goals (with_reducible rfl))
  try simp only [Act.put, List.setIfInBounds_toArray, List.set_cons_zero, List.set_cons_succ]
  refine' wpAnyH_take (i := 4) (oi := { dst := some 50, op := Op.binOp BinOp.leq 3 (Operand.tmp 49) (Operand.const (Value.int IntKind.i64 2)) 3, type := 4, pos := "law.go:107", after := #[{ on := 3, ground := Ground.data }, { on := 1, ground := Ground.guard }], guard := some (1, true) }) (v := ?v4) rfl (by kernel_rfl) (by kernel_rfl) (by kernel_rfl) (fun _ _ _ h => h) (Or.inl ⟨?g4, ?y4⟩) (by assumption) ?r4
  case g4 => rfl
  case y4 => (intro w hSw; (try dsimp only at hSw); go_simp; all_goals (with_reducible rfl))
  try simp only [Act.put, List.setIfInBounds_toArray, List.set_cons_zero, List.set_cons_succ]
  refine' wpAnyH_take (i := 5) (oi := { dst := some 51, op := Op.pick (Operand.tmp 47) (Operand.tmp 50) (Operand.const (Value.bool false)), type := 4, pos := "law.go:107", after := #[{ on := 1, ground := Ground.data }, { on := 4, ground := Ground.data }], guard := none }) (v := ?v5) rfl (by kernel_rfl) (by kernel_rfl) (by kernel_rfl) (fun _ _ _ h => h) (Or.inl ⟨?g5, ?y5⟩) (by assumption) ?r5
  case g5 => rfl
  case y5 => (intro w hSw; (try dsimp only at hSw); go_simp; all_goals (with_reducible rfl))
  try simp only [Act.put, List.setIfInBounds_toArray, List.set_cons_zero, List.set_cons_succ]
  refine' wpAnyH_take (i := 6) (oi := { dst := some 52, op := Op.move (Operand.tmp 51), type := 4, pos := "law.go:107", after := #[{ on := 5, ground := Ground.data }, { on := 1, ground := Ground.chain }], guard := none }) (v := ?v6) rfl (by kernel_rfl) (by kernel_rfl) (by kernel_rfl) (fun _ _ _ h => h) (Or.inl ⟨?g6, ?y6⟩) (by assumption) ?r6
  case g6 => rfl
  case y6 => (intro w hSw; (try dsimp only at hSw); go_simp; all_goals (with_reducible rfl))
  try simp only [Act.put, List.setIfInBounds_toArray, List.set_cons_zero, List.set_cons_succ]
  refine' wpAnyH_take (i := 7) (oi := { dst := some 53, op := Op.move (Operand.tmp 7), type := 60, pos := "law.go:107", after := #[{ on := 6, ground := Ground.guard }], guard := some (6, true) }) (v := ?v7) rfl (by kernel_rfl) (by kernel_rfl) (by kernel_rfl) (fun _ _ _ h => h) (Or.inl ⟨?g7, ?y7⟩) (by assumption) ?r7
  case g7 => rfl
  case y7 => (intro w hSw; (try dsimp only at hSw); go_simp; all_goals (with_reducible rfl))
  try simp only [Act.put, List.setIfInBounds_toArray, List.set_cons_zero, List.set_cons_succ]
  refine' wpAnyH_take (i := 8) (oi := { dst := some 54, op := Op.call { callee := Callee.builtin Builtin.len, args := #[Operand.tmp 53], argTypes := #[60] }, type := 3, pos := "law.go:107", after := #[{ on := 7, ground := Ground.data }, { on := 6, ground := Ground.guard }], guard := some (6, true) }) (v := ?v8) rfl (by kernel_rfl) (by kernel_rfl) (by kernel_rfl) (fun _ _ _ h => h) (Or.inl ⟨?g8, ?y8⟩) (by assumption) ?r8
  case g8 => rfl
  case y8 => (intro w hSw; (try dsimp only at hSw); go_simp; all_goals (with_reducible rfl))
  try simp only [Act.put, List.setIfInBounds_toArray, List.set_cons_zero, List.set_cons_succ]
  refine' wpAnyH_take (i := 9) (oi := { dst := some 55, op := Op.binOp BinOp.lss 3 (Operand.tmp 54) (Operand.const (Value.int IntKind.i64 2)) 3, type := 4, pos := "law.go:107", after := #[{ on := 8, ground := Ground.data }, { on := 6, ground := Ground.guard }], guard := some (6, true) }) (v := ?v9) rfl (by kernel_rfl) (by kernel_rfl) (by kernel_rfl) (fun _ _ _ h => h) (Or.inl ⟨?g9, ?y9⟩) (by assumption) ?r9
  case g9 => rfl
  case y9 => (intro w hSw; (try dsimp only at hSw); go_simp; all_goals (with_reducible rfl))
  try simp only [Act.put, List.setIfInBounds_toArray, List.set_cons_zero, List.set_cons_succ]
  refine' wpAnyH_take (i := 10) (oi := { dst := some 56, op := Op.move (Operand.tmp 55), type := 4, pos := "law.go:107", after := #[{ on := 9, ground := Ground.data }, { on := 6, ground := Ground.chain }, { on := 6, ground := Ground.guard }], guard := some (6, true) }) (v := ?v10) rfl (by kernel_rfl) (by kernel_rfl) (by kernel_rfl) (fun _ _ _ h => h) (Or.inl ⟨?g10, ?y10⟩) (by assumption) ?r10
  case g10 => rfl
  case y10 => (intro w hSw; (try dsimp only at hSw); go_simp; all_goals (with_reducible rfl))
  try simp only [Act.put, List.setIfInBounds_toArray, List.set_cons_zero, List.set_cons_succ]
  refine' wpAnyH_take (i := 11) (oi := { dst := some 57, op := Op.move (Operand.tmp 7), type := 60, pos := "law.go:107", after := #[{ on := 10, ground := Ground.guard }], guard := some (10, false) }) (v := undef) rfl (by kernel_rfl) (by kernel_rfl) (by kernel_rfl) (fun _ _ _ h => h) (Or.inr ⟨?g11, rfl⟩) (by assumption) ?r11
  case g11 => rfl
  try simp only [Act.put, List.setIfInBounds_toArray, List.set_cons_zero, List.set_cons_succ]
  refine' wpAnyH_take (i := 12) (oi := { dst := some 58, op := Op.indexAddr 60 (Operand.tmp 57) (Operand.const (Value.int IntKind.i64 1)), type := 0, pos := "law.go:107", after := #[{ on := 11, ground := Ground.data }, { on := 10, ground := Ground.guard }], guard := some (10, false) }) (v := undef) rfl (by kernel_rfl) (by kernel_rfl) (by kernel_rfl) (fun _ _ _ h => h) (Or.inr ⟨?g12, rfl⟩) (by assumption) ?r12
  case g12 => rfl
  try simp only [Act.put, List.setIfInBounds_toArray, List.set_cons_zero, List.set_cons_succ]
  refine' wpAnyH_take (i := 13) (oi := { dst := some 59, op := Op.load 3 (Operand.tmp 58), type := 3, pos := "law.go:107", after := #[{ on := 12, ground := Ground.data }, { on := 10, ground := Ground.guard }], guard := some (10, false) }) (v := undef) rfl (by kernel_rfl) (by kernel_rfl) (by kernel_rfl) (fun _ _ _ h => h) (Or.inr ⟨?g13, rfl⟩) (by assumption) ?r13
  case g13 => rfl
  try simp only [Act.put, List.setIfInBounds_toArray, List.set_cons_zero, List.set_cons_succ]
  refine' wpAnyH_take (i := 14) (oi := { dst := some 60, op := Op.move (Operand.tmp 7), type := 60, pos := "law.go:107", after := #[{ on := 10, ground := Ground.guard }], guard := some (10, false) }) (v := undef) rfl (by kernel_rfl) (by kernel_rfl) (by kernel_rfl) (fun _ _ _ h => h) (Or.inr ⟨?g14, rfl⟩) (by assumption) ?r14
  case g14 => rfl
  try simp only [Act.put, List.setIfInBounds_toArray, List.set_cons_zero, List.set_cons_succ]
  refine' wpAnyH_take (i := 15) (oi := { dst := some 61, op := Op.indexAddr 60 (Operand.tmp 60) (Operand.const (Value.int IntKind.i64 0)), type := 0, pos := "law.go:107", after := #[{ on := 14, ground := Ground.data }, { on := 10, ground := Ground.guard }], guard := some (10, false) }) (v := undef) rfl (by kernel_rfl) (by kernel_rfl) (by kernel_rfl) (fun _ _ _ h => h) (Or.inr ⟨?g15, rfl⟩) (by assumption) ?r15
  case g15 => rfl
  try simp only [Act.put, List.setIfInBounds_toArray, List.set_cons_zero, List.set_cons_succ]
  refine' wpAnyH_take (i := 16) (oi := { dst := some 62, op := Op.load 3 (Operand.tmp 61), type := 3, pos := "law.go:107", after := #[{ on := 15, ground := Ground.data }, { on := 10, ground := Ground.guard }], guard := some (10, false) }) (v := undef) rfl (by kernel_rfl) (by kernel_rfl) (by kernel_rfl) (fun _ _ _ h => h) (Or.inr ⟨?g16, rfl⟩) (by assumption) ?r16
  case g16 => rfl
  try simp only [Act.put, List.setIfInBounds_toArray, List.set_cons_zero, List.set_cons_succ]
  refine' wpAnyH_take (i := 17) (oi := { dst := some 63, op := Op.binOp BinOp.sub 3 (Operand.tmp 59) (Operand.tmp 62) 3, type := 3, pos := "law.go:107", after := #[{ on := 13, ground := Ground.data }, { on := 16, ground := Ground.data }, { on := 10, ground := Ground.guard }], guard := some (10, false) }) (v := undef) rfl (by kernel_rfl) (by kernel_rfl) (by kernel_rfl) (fun _ _ _ h => h) (Or.inr ⟨?g17, rfl⟩) (by assumption) ?r17
  case g17 => rfl
  try simp only [Act.put, List.setIfInBounds_toArray, List.set_cons_zero, List.set_cons_succ]
  refine' wpAnyH_take (i := 18) (oi := { dst := some 64, op := Op.fieldAddr 49 (Operand.tmp 3) 1, type := 0, pos := "law.go:107", after := #[{ on := 10, ground := Ground.guard }], guard := some (10, false) }) (v := undef) rfl (by kernel_rfl) (by kernel_rfl) (by kernel_rfl) (fun _ _ _ h => h) (Or.inr ⟨?g18, rfl⟩) (by assumption) ?r18
  case g18 => rfl
  try simp only [Act.put, List.setIfInBounds_toArray, List.set_cons_zero, List.set_cons_succ]
  refine' wpAnyH_take (i := 19) (oi := { dst := some 65, op := Op.load 3 (Operand.tmp 64), type := 3, pos := "law.go:107", after := #[{ on := 18, ground := Ground.data }, { on := 10, ground := Ground.guard }], guard := some (10, false) }) (v := undef) rfl (by kernel_rfl) (by kernel_rfl) (by kernel_rfl) (fun _ _ _ h => h) (Or.inr ⟨?g19, rfl⟩) (by assumption) ?r19
  case g19 => rfl
  try simp only [Act.put, List.setIfInBounds_toArray, List.set_cons_zero, List.set_cons_succ]
  refine' wpAnyH_take (i := 20) (oi := { dst := some 66, op := Op.binOp BinOp.eql 3 (Operand.tmp 63) (Operand.tmp 65) 3, type := 4, pos := "law.go:107", after := #[{ on := 17, ground := Ground.data }, { on := 19, ground := Ground.data }, { on := 10, ground := Ground.guard }], guard := some (10, false) }) (v := undef) rfl (by kernel_rfl) (by kernel_rfl) (by kernel_rfl) (fun _ _ _ h => h) (Or.inr ⟨?g20, rfl⟩) (by assumption) ?r20
  case g20 => rfl
  try simp only [Act.put, List.setIfInBounds_toArray, List.set_cons_zero, List.set_cons_succ]
  refine' wpAnyH_take (i := 21) (oi := { dst := some 67, op := Op.pick (Operand.tmp 56) (Operand.const (Value.bool true)) (Operand.tmp 66), type := 4, pos := "law.go:107", after := #[{ on := 10, ground := Ground.data }, { on := 20, ground := Ground.data }, { on := 6, ground := Ground.guard }], guard := some (6, true) }) (v := ?v21) rfl (by kernel_rfl) (by kernel_rfl) (by kernel_rfl) (fun _ _ _ h => h) (Or.inl ⟨?g21, ?y21⟩) (by assumption) ?r21
  case g21 => rfl
  case y21 => (intro w hSw; (try dsimp only at hSw); go_simp; all_goals (with_reducible rfl))
  try simp only [Act.put, List.setIfInBounds_toArray, List.set_cons_zero, List.set_cons_succ]
  refine' wpAnyH_take (i := 22) (oi := { dst := some 68, op := Op.pick (Operand.tmp 52) (Operand.tmp 67) (Operand.const (Value.bool false)), type := 4, pos := "law.go:107", after := #[{ on := 6, ground := Ground.data }, { on := 21, ground := Ground.data }], guard := none }) (v := ?v22) rfl (by kernel_rfl) (by kernel_rfl) (by kernel_rfl) (fun _ _ _ h => h) (Or.inl ⟨?g22, ?y22⟩) (by assumption) ?r22
  case g22 => rfl
  case y22 => (intro w hSw; (try dsimp only at hSw); go_simp; all_goals (with_reducible rfl))
  try simp only [Act.put, List.setIfInBounds_toArray, List.set_cons_zero, List.set_cons_succ]
  refine' wpAnyH_take (i := 23) (oi := { dst := some 6, op := Op.assign (Operand.tmp 68), type := 4, pos := "law.go:107", after := #[{ on := 22, ground := Ground.data }, { on := 10, ground := Ground.chain }, { on := 0, ground := Ground.phase }, { on := 1, ground := Ground.phase }, { on := 2, ground := Ground.phase }, { on := 3, ground := Ground.phase }, { on := 4, ground := Ground.phase }, { on := 5, ground := Ground.phase }, { on := 6, ground := Ground.phase }, { on := 7, ground := Ground.phase }, { on := 8, ground := Ground.phase }, { on := 9, ground := Ground.phase }, { on := 10, ground := Ground.phase }, { on := 11, ground := Ground.phase }, { on := 12, ground := Ground.phase }, { on := 13, ground := Ground.phase }, { on := 14, ground := Ground.phase }, { on := 15, ground := Ground.phase }, { on := 16, ground := Ground.phase }, { on := 17, ground := Ground.phase }, { on := 18, ground := Ground.phase }, { on := 19, ground := Ground.phase }, { on := 20, ground := Ground.phase }, { on := 21, ground := Ground.phase }, { on := 22, ground := Ground.phase }], guard := none }) (v := ?v23) rfl (by kernel_rfl) (by kernel_rfl) (by kernel_rfl) (fun _ _ _ h => h) (Or.inl ⟨?g23, ?y23⟩) (by assumption) ?r23
  case g23 => rfl
  case y23 => (intro w hSw; (try dsimp only at hSw); go_simp; all_goals (with_reducible rfl))
  try simp only [Act.put, List.setIfInBounds_toArray, List.set_cons_zero, List.set_cons_succ]
  refine wpAnyH_done (by kernel_rfl) ?_ _
  go_wp2
  go_ret
  exact ⟨rfl, HB.out.trans (hHeld.mono HB.out.size)⟩

set_option maxHeartbeats 4000000 in
theorem zmany_none (b s m k d t m' k' d' t' n u T : Int) (w : World) (ht : Tab w) (hz : zErr ⟨b, s, m, k, d, t, m', k', d', t'⟩ = 0) (hd : DayOk n u) (hT : n * 1440 + u - b = T) (hs0 : (s == 0) = false) (hx : instV ⟨b, s, m, k, d, t, m', k', d', t'⟩ T = []) (t1 : 576000 ≤ T) (t2 : T ≤ 5258879999) (sb1 : 0 ≤ s) (sb2 : s ≤ 120) (hb1 : -720 ≤ b) (hb2 : b ≤ 840) :
    Calls Tryd.prog 18 #[.agg #[.int .i64 b, .int .i64 s, .int .i64 m, .int .i64 k, .int .i64 d, .int .i64 t, .int .i64 m', .int .i64 k', .int .i64 d', .int .i64 t'], .int .i64 n, .int .i64 u] w fun e w' => e = .returned (.bool true) ∧ Below w.heap.size w w' := by
  have hA := (Below.refl w.heap.size w).alloc (Nat.le_refl _) (.cells #[.int .i64 b, .int .i64 s, .int .i64 m, .int .i64 k, .int .i64 d, .int .i64 t, .int .i64 m', .int .i64 k', .int .i64 d', .int .i64 t'] 49)
  have kA := BlockIs.new w #[.int .i64 b, .int .i64 s, .int .i64 m, .int .i64 k, .int .i64 d, .int .i64 t, .int .i64 m', .int .i64 k', .int .i64 d', .int .i64 t'] 49
  have htA := ht.below hA
  have d0 := hd
  obtain ⟨d1, d2, d3, d4⟩ := d0
  have hd := Lib.hid hd
  go_enter Tryd.func18, Tryd.ntmps18
  go_wp2_with fail
  refine (zinst_ok _ _ _ _ _ _ _ _ _ _ n u T _ _ htA hz hd.out hT hx).mono ?_; rintro e w1 ⟨out, rfl, ro, hb⟩
  have k1 := kA.kept hb
  have h1 := hA.trans (hb.mono hA.size)
  have ht1 := htA.below hb
  clear hb kA hA htA hx
  obtain ⟨z0, z1, z2, z3, z4, z5, z6, z7, z8, z9⟩ := zone_cells k1
  obtain ⟨p1, cap1, rfl⟩ := row_nil ro
  have HB := Lib.hid h1
  have HT := Lib.hid (show ∀ W', Below w1.heap.size w1 W' → Tab W' from fun W' h => ht1.below h)
  clear k1 h1 ht1 ro
  go_wp2_with fail
  refine wp_region_held_drew (S := fun w' => Below w1.heap.size w1 w') (by kernel_rfl) ((Below.refl _ _).drew) (fun hHeld => ?_)
  refine wpAnyH_ready (rs := [0]) (by kernel_rfl) (by simp) ?_
  refine' AllReadyH.cons (o := { dst := some 46, op := Op.call { callee := Callee.value (Operand.func 42), args := #[], argTypes := #[] }, type := 4, pos := "law.go:107", after := #[], guard := none }) rfl (fun K hK => ?s0) AllReadyH.nil
  go_simp
  refine (awake6 _ (by exact HT.out _ hHeld)).mono ?_; rintro e w4 ⟨rfl, hb4⟩
  refine' hK.out _ _ ?h0 (fun hHeld => ?r0)
  case h0 => exact hHeld.trans (hb4.mono hHeld.size)
  clear hK K
  try simp only [Act.put, List.setIfInBounds_toArray, List.set_cons_zero, List.set_cons_succ]
  refine' wpAnyH_take (i := 1) (oi := { dst := some 47, op := Op.move (Operand.tmp 46), type := 4, pos := "law.go:107", after := #[{ on := 0, ground := Ground.data }, { on := 0, ground := Ground.chain }], guard := none }) (v := ?v1) rfl (by kernel_rfl) (by kernel_rfl) (by kernel_rfl) (fun _ _ _ h => h) (Or.inl ⟨?g1, ?y1⟩) (by assumption) ?r1
  case g1 => rfl
  case y1 => (intro w hSw; (try dsimp only at hSw); go_simp; all_goals (with_reducible rfl))
  try simp only [Act.put, List.setIfInBounds_toArray, List.set_cons_zero, List.set_cons_succ]
  refine' wpAnyH_take (i := 2) (oi := { dst := some 48, op := Op.move (Operand.tmp 7), type := 60, pos := "law.go:107", after := #[{ on := 1, ground := Ground.guard }], guard := some (1, true) }) (v := ?v2) rfl (by kernel_rfl) (by kernel_rfl) (by kernel_rfl) (fun _ _ _ h => h) (Or.inl ⟨?g2, ?y2⟩) (by assumption) ?r2
  case g2 => rfl
  case y2 => (intro w hSw; (try dsimp only at hSw); go_simp; all_goals (with_reducible rfl))
  try simp only [Act.put, List.setIfInBounds_toArray, List.set_cons_zero, List.set_cons_succ]
  refine' wpAnyH_take (i := 3) (oi := { dst := some 49, op := Op.call { callee := Callee.builtin Builtin.len, args := #[Operand.tmp 48], argTypes := #[60] }, type := 3, pos := "law.go:107", after := #[{ on := 2, ground := Ground.data }, { on := 1, ground := Ground.guard }], guard := some (1, true) }) (v := ?v3) rfl (by kernel_rfl) (by kernel_rfl) (by kernel_rfl) (fun _ _ _ h => h) (Or.inl ⟨?g3, ?y3⟩) (by assumption) ?r3
  case g3 => rfl
  case y3 => (intro w hSw; (try dsimp only at hSw); go_simp; all_goals (with_reducible rfl))
  try simp only [Act.put, List.setIfInBounds_toArray, List.set_cons_zero, List.set_cons_succ]
  refine' wpAnyH_take (i := 4) (oi := { dst := some 50, op := Op.binOp BinOp.leq 3 (Operand.tmp 49) (Operand.const (Value.int IntKind.i64 2)) 3, type := 4, pos := "law.go:107", after := #[{ on := 3, ground := Ground.data }, { on := 1, ground := Ground.guard }], guard := some (1, true) }) (v := ?v4) rfl (by kernel_rfl) (by kernel_rfl) (by kernel_rfl) (fun _ _ _ h => h) (Or.inl ⟨?g4, ?y4⟩) (by assumption) ?r4
  case g4 => rfl
  case y4 => (intro w hSw; (try dsimp only at hSw); go_simp; all_goals (with_reducible rfl))
  try simp only [Act.put, List.setIfInBounds_toArray, List.set_cons_zero, List.set_cons_succ]
  refine' wpAnyH_take (i := 5) (oi := { dst := some 51, op := Op.pick (Operand.tmp 47) (Operand.tmp 50) (Operand.const (Value.bool false)), type := 4, pos := "law.go:107", after := #[{ on := 1, ground := Ground.data }, { on := 4, ground := Ground.data }], guard := none }) (v := ?v5) rfl (by kernel_rfl) (by kernel_rfl) (by kernel_rfl) (fun _ _ _ h => h) (Or.inl ⟨?g5, ?y5⟩) (by assumption) ?r5
  case g5 => rfl
  case y5 => (intro w hSw; (try dsimp only at hSw); go_simp; all_goals (with_reducible rfl))
  try simp only [Act.put, List.setIfInBounds_toArray, List.set_cons_zero, List.set_cons_succ]
  refine' wpAnyH_take (i := 6) (oi := { dst := some 52, op := Op.move (Operand.tmp 51), type := 4, pos := "law.go:107", after := #[{ on := 5, ground := Ground.data }, { on := 1, ground := Ground.chain }], guard := none }) (v := ?v6) rfl (by kernel_rfl) (by kernel_rfl) (by kernel_rfl) (fun _ _ _ h => h) (Or.inl ⟨?g6, ?y6⟩) (by assumption) ?r6
  case g6 => rfl
  case y6 => (intro w hSw; (try dsimp only at hSw); go_simp; all_goals (with_reducible rfl))
  try simp only [Act.put, List.setIfInBounds_toArray, List.set_cons_zero, List.set_cons_succ]
  refine' wpAnyH_take (i := 7) (oi := { dst := some 53, op := Op.move (Operand.tmp 7), type := 60, pos := "law.go:107", after := #[{ on := 6, ground := Ground.guard }], guard := some (6, true) }) (v := ?v7) rfl (by kernel_rfl) (by kernel_rfl) (by kernel_rfl) (fun _ _ _ h => h) (Or.inl ⟨?g7, ?y7⟩) (by assumption) ?r7
  case g7 => rfl
  case y7 => (intro w hSw; (try dsimp only at hSw); go_simp; all_goals (with_reducible rfl))
  try simp only [Act.put, List.setIfInBounds_toArray, List.set_cons_zero, List.set_cons_succ]
  refine' wpAnyH_take (i := 8) (oi := { dst := some 54, op := Op.call { callee := Callee.builtin Builtin.len, args := #[Operand.tmp 53], argTypes := #[60] }, type := 3, pos := "law.go:107", after := #[{ on := 7, ground := Ground.data }, { on := 6, ground := Ground.guard }], guard := some (6, true) }) (v := ?v8) rfl (by kernel_rfl) (by kernel_rfl) (by kernel_rfl) (fun _ _ _ h => h) (Or.inl ⟨?g8, ?y8⟩) (by assumption) ?r8
  case g8 => rfl
  case y8 => (intro w hSw; (try dsimp only at hSw); go_simp; all_goals (with_reducible rfl))
  try simp only [Act.put, List.setIfInBounds_toArray, List.set_cons_zero, List.set_cons_succ]
  refine' wpAnyH_take (i := 9) (oi := { dst := some 55, op := Op.binOp BinOp.lss 3 (Operand.tmp 54) (Operand.const (Value.int IntKind.i64 2)) 3, type := 4, pos := "law.go:107", after := #[{ on := 8, ground := Ground.data }, { on := 6, ground := Ground.guard }], guard := some (6, true) }) (v := ?v9) rfl (by kernel_rfl) (by kernel_rfl) (by kernel_rfl) (fun _ _ _ h => h) (Or.inl ⟨?g9, ?y9⟩) (by assumption) ?r9
  case g9 => rfl
  case y9 => (intro w hSw; (try dsimp only at hSw); go_simp; all_goals (with_reducible rfl))
  try simp only [Act.put, List.setIfInBounds_toArray, List.set_cons_zero, List.set_cons_succ]
  refine' wpAnyH_take (i := 10) (oi := { dst := some 56, op := Op.move (Operand.tmp 55), type := 4, pos := "law.go:107", after := #[{ on := 9, ground := Ground.data }, { on := 6, ground := Ground.chain }, { on := 6, ground := Ground.guard }], guard := some (6, true) }) (v := ?v10) rfl (by kernel_rfl) (by kernel_rfl) (by kernel_rfl) (fun _ _ _ h => h) (Or.inl ⟨?g10, ?y10⟩) (by assumption) ?r10
  case g10 => rfl
  case y10 => (intro w hSw; (try dsimp only at hSw); go_simp; all_goals (with_reducible rfl))
  try simp only [Act.put, List.setIfInBounds_toArray, List.set_cons_zero, List.set_cons_succ]
  refine' wpAnyH_take (i := 11) (oi := { dst := some 57, op := Op.move (Operand.tmp 7), type := 60, pos := "law.go:107", after := #[{ on := 10, ground := Ground.guard }], guard := some (10, false) }) (v := undef) rfl (by kernel_rfl) (by kernel_rfl) (by kernel_rfl) (fun _ _ _ h => h) (Or.inr ⟨?g11, rfl⟩) (by assumption) ?r11
  case g11 => rfl
  try simp only [Act.put, List.setIfInBounds_toArray, List.set_cons_zero, List.set_cons_succ]
  refine' wpAnyH_take (i := 12) (oi := { dst := some 58, op := Op.indexAddr 60 (Operand.tmp 57) (Operand.const (Value.int IntKind.i64 1)), type := 0, pos := "law.go:107", after := #[{ on := 11, ground := Ground.data }, { on := 10, ground := Ground.guard }], guard := some (10, false) }) (v := undef) rfl (by kernel_rfl) (by kernel_rfl) (by kernel_rfl) (fun _ _ _ h => h) (Or.inr ⟨?g12, rfl⟩) (by assumption) ?r12
  case g12 => rfl
  try simp only [Act.put, List.setIfInBounds_toArray, List.set_cons_zero, List.set_cons_succ]
  refine' wpAnyH_take (i := 13) (oi := { dst := some 59, op := Op.load 3 (Operand.tmp 58), type := 3, pos := "law.go:107", after := #[{ on := 12, ground := Ground.data }, { on := 10, ground := Ground.guard }], guard := some (10, false) }) (v := undef) rfl (by kernel_rfl) (by kernel_rfl) (by kernel_rfl) (fun _ _ _ h => h) (Or.inr ⟨?g13, rfl⟩) (by assumption) ?r13
  case g13 => rfl
  try simp only [Act.put, List.setIfInBounds_toArray, List.set_cons_zero, List.set_cons_succ]
  refine' wpAnyH_take (i := 14) (oi := { dst := some 60, op := Op.move (Operand.tmp 7), type := 60, pos := "law.go:107", after := #[{ on := 10, ground := Ground.guard }], guard := some (10, false) }) (v := undef) rfl (by kernel_rfl) (by kernel_rfl) (by kernel_rfl) (fun _ _ _ h => h) (Or.inr ⟨?g14, rfl⟩) (by assumption) ?r14
  case g14 => rfl
  try simp only [Act.put, List.setIfInBounds_toArray, List.set_cons_zero, List.set_cons_succ]
  refine' wpAnyH_take (i := 15) (oi := { dst := some 61, op := Op.indexAddr 60 (Operand.tmp 60) (Operand.const (Value.int IntKind.i64 0)), type := 0, pos := "law.go:107", after := #[{ on := 14, ground := Ground.data }, { on := 10, ground := Ground.guard }], guard := some (10, false) }) (v := undef) rfl (by kernel_rfl) (by kernel_rfl) (by kernel_rfl) (fun _ _ _ h => h) (Or.inr ⟨?g15, rfl⟩) (by assumption) ?r15
  case g15 => rfl
  try simp only [Act.put, List.setIfInBounds_toArray, List.set_cons_zero, List.set_cons_succ]
  refine' wpAnyH_take (i := 16) (oi := { dst := some 62, op := Op.load 3 (Operand.tmp 61), type := 3, pos := "law.go:107", after := #[{ on := 15, ground := Ground.data }, { on := 10, ground := Ground.guard }], guard := some (10, false) }) (v := undef) rfl (by kernel_rfl) (by kernel_rfl) (by kernel_rfl) (fun _ _ _ h => h) (Or.inr ⟨?g16, rfl⟩) (by assumption) ?r16
  case g16 => rfl
  try simp only [Act.put, List.setIfInBounds_toArray, List.set_cons_zero, List.set_cons_succ]
  refine' wpAnyH_take (i := 17) (oi := { dst := some 63, op := Op.binOp BinOp.sub 3 (Operand.tmp 59) (Operand.tmp 62) 3, type := 3, pos := "law.go:107", after := #[{ on := 13, ground := Ground.data }, { on := 16, ground := Ground.data }, { on := 10, ground := Ground.guard }], guard := some (10, false) }) (v := undef) rfl (by kernel_rfl) (by kernel_rfl) (by kernel_rfl) (fun _ _ _ h => h) (Or.inr ⟨?g17, rfl⟩) (by assumption) ?r17
  case g17 => rfl
  try simp only [Act.put, List.setIfInBounds_toArray, List.set_cons_zero, List.set_cons_succ]
  refine' wpAnyH_take (i := 18) (oi := { dst := some 64, op := Op.fieldAddr 49 (Operand.tmp 3) 1, type := 0, pos := "law.go:107", after := #[{ on := 10, ground := Ground.guard }], guard := some (10, false) }) (v := undef) rfl (by kernel_rfl) (by kernel_rfl) (by kernel_rfl) (fun _ _ _ h => h) (Or.inr ⟨?g18, rfl⟩) (by assumption) ?r18
  case g18 => rfl
  try simp only [Act.put, List.setIfInBounds_toArray, List.set_cons_zero, List.set_cons_succ]
  refine' wpAnyH_take (i := 19) (oi := { dst := some 65, op := Op.load 3 (Operand.tmp 64), type := 3, pos := "law.go:107", after := #[{ on := 18, ground := Ground.data }, { on := 10, ground := Ground.guard }], guard := some (10, false) }) (v := undef) rfl (by kernel_rfl) (by kernel_rfl) (by kernel_rfl) (fun _ _ _ h => h) (Or.inr ⟨?g19, rfl⟩) (by assumption) ?r19
  case g19 => rfl
  try simp only [Act.put, List.setIfInBounds_toArray, List.set_cons_zero, List.set_cons_succ]
  refine' wpAnyH_take (i := 20) (oi := { dst := some 66, op := Op.binOp BinOp.eql 3 (Operand.tmp 63) (Operand.tmp 65) 3, type := 4, pos := "law.go:107", after := #[{ on := 17, ground := Ground.data }, { on := 19, ground := Ground.data }, { on := 10, ground := Ground.guard }], guard := some (10, false) }) (v := undef) rfl (by kernel_rfl) (by kernel_rfl) (by kernel_rfl) (fun _ _ _ h => h) (Or.inr ⟨?g20, rfl⟩) (by assumption) ?r20
  case g20 => rfl
  try simp only [Act.put, List.setIfInBounds_toArray, List.set_cons_zero, List.set_cons_succ]
  refine' wpAnyH_take (i := 21) (oi := { dst := some 67, op := Op.pick (Operand.tmp 56) (Operand.const (Value.bool true)) (Operand.tmp 66), type := 4, pos := "law.go:107", after := #[{ on := 10, ground := Ground.data }, { on := 20, ground := Ground.data }, { on := 6, ground := Ground.guard }], guard := some (6, true) }) (v := ?v21) rfl (by kernel_rfl) (by kernel_rfl) (by kernel_rfl) (fun _ _ _ h => h) (Or.inl ⟨?g21, ?y21⟩) (by assumption) ?r21
  case g21 => rfl
  case y21 => (intro w hSw; (try dsimp only at hSw); go_simp; all_goals (with_reducible rfl))
  try simp only [Act.put, List.setIfInBounds_toArray, List.set_cons_zero, List.set_cons_succ]
  refine' wpAnyH_take (i := 22) (oi := { dst := some 68, op := Op.pick (Operand.tmp 52) (Operand.tmp 67) (Operand.const (Value.bool false)), type := 4, pos := "law.go:107", after := #[{ on := 6, ground := Ground.data }, { on := 21, ground := Ground.data }], guard := none }) (v := ?v22) rfl (by kernel_rfl) (by kernel_rfl) (by kernel_rfl) (fun _ _ _ h => h) (Or.inl ⟨?g22, ?y22⟩) (by assumption) ?r22
  case g22 => rfl
  case y22 => (intro w hSw; (try dsimp only at hSw); go_simp; all_goals (with_reducible rfl))
  try simp only [Act.put, List.setIfInBounds_toArray, List.set_cons_zero, List.set_cons_succ]
  refine' wpAnyH_take (i := 23) (oi := { dst := some 6, op := Op.assign (Operand.tmp 68), type := 4, pos := "law.go:107", after := #[{ on := 22, ground := Ground.data }, { on := 10, ground := Ground.chain }, { on := 0, ground := Ground.phase }, { on := 1, ground := Ground.phase }, { on := 2, ground := Ground.phase }, { on := 3, ground := Ground.phase }, { on := 4, ground := Ground.phase }, { on := 5, ground := Ground.phase }, { on := 6, ground := Ground.phase }, { on := 7, ground := Ground.phase }, { on := 8, ground := Ground.phase }, { on := 9, ground := Ground.phase }, { on := 10, ground := Ground.phase }, { on := 11, ground := Ground.phase }, { on := 12, ground := Ground.phase }, { on := 13, ground := Ground.phase }, { on := 14, ground := Ground.phase }, { on := 15, ground := Ground.phase }, { on := 16, ground := Ground.phase }, { on := 17, ground := Ground.phase }, { on := 18, ground := Ground.phase }, { on := 19, ground := Ground.phase }, { on := 20, ground := Ground.phase }, { on := 21, ground := Ground.phase }, { on := 22, ground := Ground.phase }], guard := none }) (v := ?v23) rfl (by kernel_rfl) (by kernel_rfl) (by kernel_rfl) (fun _ _ _ h => h) (Or.inl ⟨?g23, ?y23⟩) (by assumption) ?r23
  case g23 => rfl
  case y23 => (intro w hSw; (try dsimp only at hSw); go_simp; all_goals (with_reducible rfl))
  try simp only [Act.put, List.setIfInBounds_toArray, List.set_cons_zero, List.set_cons_succ]
  refine wpAnyH_done (by kernel_rfl) ?_ _
  go_wp2
  go_ret
  exact ⟨rfl, HB.out.trans (hHeld.mono HB.out.size)⟩

set_option maxHeartbeats 4000000 in
theorem zmany_late (b s m k d t m' k' d' t' n u T : Int) (w : World) (ht : Tab w) (hz : zErr ⟨b, s, m, k, d, t, m', k', d', t'⟩ = 0) (hd : DayOk n u) (hT : n * 1440 + u - b = T) (hs0 : (s == 0) = false) (hx : instV ⟨b, s, m, k, d, t, m', k', d', t'⟩ T = [T]) (t1 : 576000 ≤ T) (t2 : T ≤ 5258879999) (sb1 : 0 ≤ s) (sb2 : s ≤ 120) (hb1 : -720 ≤ b) (hb2 : b ≤ 840) :
    Calls Tryd.prog 18 #[.agg #[.int .i64 b, .int .i64 s, .int .i64 m, .int .i64 k, .int .i64 d, .int .i64 t, .int .i64 m', .int .i64 k', .int .i64 d', .int .i64 t'], .int .i64 n, .int .i64 u] w fun e w' => e = .returned (.bool true) ∧ Below w.heap.size w w' := by
  have hA := (Below.refl w.heap.size w).alloc (Nat.le_refl _) (.cells #[.int .i64 b, .int .i64 s, .int .i64 m, .int .i64 k, .int .i64 d, .int .i64 t, .int .i64 m', .int .i64 k', .int .i64 d', .int .i64 t'] 49)
  have kA := BlockIs.new w #[.int .i64 b, .int .i64 s, .int .i64 m, .int .i64 k, .int .i64 d, .int .i64 t, .int .i64 m', .int .i64 k', .int .i64 d', .int .i64 t'] 49
  have htA := ht.below hA
  have d0 := hd
  obtain ⟨d1, d2, d3, d4⟩ := d0
  have hd := Lib.hid hd
  go_enter Tryd.func18, Tryd.ntmps18
  go_wp2_with fail
  refine (zinst_ok _ _ _ _ _ _ _ _ _ _ n u T _ _ htA hz hd.out hT hx).mono ?_; rintro e w1 ⟨out, rfl, ro, hb⟩
  have k1 := kA.kept hb
  have h1 := hA.trans (hb.mono hA.size)
  have ht1 := htA.below hb
  clear hb kA hA htA hx
  obtain ⟨z0, z1, z2, z3, z4, z5, z6, z7, z8, z9⟩ := zone_cells k1
  have ro2 := ro
  obtain ⟨g, cap1, rfl, x0, x1⟩ := row_some ro2
  clear ro2
  simp only [List.length_cons, List.length_nil, Nat.zero_add, Nat.reduceAdd] at ro ⊢
  have HB := Lib.hid h1
  have HT := Lib.hid (show ∀ W', Below w1.heap.size w1 W' → Tab W' from fun W' h => ht1.below h)
  clear k1 h1 ht1 ro
  go_wp2_with fail
  refine wp_region_held_drew (S := fun w' => Below w1.heap.size w1 w') (by kernel_rfl) ((Below.refl _ _).drew) (fun hHeld => ?_)
  refine wpAnyH_ready (rs := [0]) (by kernel_rfl) (by simp) ?_
  refine' AllReadyH.cons (o := { dst := some 46, op := Op.call { callee := Callee.value (Operand.func 42), args := #[], argTypes := #[] }, type := 4, pos := "law.go:107", after := #[], guard := none }) rfl (fun K hK => ?s0) AllReadyH.nil
  go_simp
  refine (awake6 _ (by exact HT.out _ hHeld)).mono ?_; rintro e w4 ⟨rfl, hb4⟩
  refine' hK.out _ _ ?h0 (fun hHeld => ?r0)
  case h0 => exact hHeld.trans (hb4.mono hHeld.size)
  clear hK K
  try simp only [Act.put, List.setIfInBounds_toArray, List.set_cons_zero, List.set_cons_succ]
  refine' wpAnyH_take (i := 1) (oi := { dst := some 47, op := Op.move (Operand.tmp 46), type := 4, pos := "law.go:107", after := #[{ on := 0, ground := Ground.data }, { on := 0, ground := Ground.chain }], guard := none }) (v := ?v1) rfl (by kernel_rfl) (by kernel_rfl) (by kernel_rfl) (fun _ _ _ h => h) (Or.inl ⟨?g1, ?y1⟩) (by assumption) ?r1
  case g1 => rfl
  case y1 => (intro w hSw; (try dsimp only at hSw); go_simp; all_goals (with_reducible rfl))
  try simp only [Act.put, List.setIfInBounds_toArray, List.set_cons_zero, List.set_cons_succ]
  refine' wpAnyH_take (i := 2) (oi := { dst := some 48, op := Op.move (Operand.tmp 7), type := 60, pos := "law.go:107", after := #[{ on := 1, ground := Ground.guard }], guard := some (1, true) }) (v := ?v2) rfl (by kernel_rfl) (by kernel_rfl) (by kernel_rfl) (fun _ _ _ h => h) (Or.inl ⟨?g2, ?y2⟩) (by assumption) ?r2
  case g2 => rfl
  case y2 => (intro w hSw; (try dsimp only at hSw); go_simp; all_goals (with_reducible rfl))
  try simp only [Act.put, List.setIfInBounds_toArray, List.set_cons_zero, List.set_cons_succ]
  refine' wpAnyH_take (i := 3) (oi := { dst := some 49, op := Op.call { callee := Callee.builtin Builtin.len, args := #[Operand.tmp 48], argTypes := #[60] }, type := 3, pos := "law.go:107", after := #[{ on := 2, ground := Ground.data }, { on := 1, ground := Ground.guard }], guard := some (1, true) }) (v := ?v3) rfl (by kernel_rfl) (by kernel_rfl) (by kernel_rfl) (fun _ _ _ h => h) (Or.inl ⟨?g3, ?y3⟩) (by assumption) ?r3
  case g3 => rfl
  case y3 => (intro w hSw; (try dsimp only at hSw); go_simp; all_goals (with_reducible rfl))
  try simp only [Act.put, List.setIfInBounds_toArray, List.set_cons_zero, List.set_cons_succ]
  refine' wpAnyH_take (i := 4) (oi := { dst := some 50, op := Op.binOp BinOp.leq 3 (Operand.tmp 49) (Operand.const (Value.int IntKind.i64 2)) 3, type := 4, pos := "law.go:107", after := #[{ on := 3, ground := Ground.data }, { on := 1, ground := Ground.guard }], guard := some (1, true) }) (v := ?v4) rfl (by kernel_rfl) (by kernel_rfl) (by kernel_rfl) (fun _ _ _ h => h) (Or.inl ⟨?g4, ?y4⟩) (by assumption) ?r4
  case g4 => rfl
  case y4 => (intro w hSw; (try dsimp only at hSw); go_simp; all_goals (with_reducible rfl))
  try simp only [Act.put, List.setIfInBounds_toArray, List.set_cons_zero, List.set_cons_succ]
  refine' wpAnyH_take (i := 5) (oi := { dst := some 51, op := Op.pick (Operand.tmp 47) (Operand.tmp 50) (Operand.const (Value.bool false)), type := 4, pos := "law.go:107", after := #[{ on := 1, ground := Ground.data }, { on := 4, ground := Ground.data }], guard := none }) (v := ?v5) rfl (by kernel_rfl) (by kernel_rfl) (by kernel_rfl) (fun _ _ _ h => h) (Or.inl ⟨?g5, ?y5⟩) (by assumption) ?r5
  case g5 => rfl
  case y5 => (intro w hSw; (try dsimp only at hSw); go_simp; all_goals (with_reducible rfl))
  try simp only [Act.put, List.setIfInBounds_toArray, List.set_cons_zero, List.set_cons_succ]
  refine' wpAnyH_take (i := 6) (oi := { dst := some 52, op := Op.move (Operand.tmp 51), type := 4, pos := "law.go:107", after := #[{ on := 5, ground := Ground.data }, { on := 1, ground := Ground.chain }], guard := none }) (v := ?v6) rfl (by kernel_rfl) (by kernel_rfl) (by kernel_rfl) (fun _ _ _ h => h) (Or.inl ⟨?g6, ?y6⟩) (by assumption) ?r6
  case g6 => rfl
  case y6 => (intro w hSw; (try dsimp only at hSw); go_simp; all_goals (with_reducible rfl))
  try simp only [Act.put, List.setIfInBounds_toArray, List.set_cons_zero, List.set_cons_succ]
  refine' wpAnyH_take (i := 7) (oi := { dst := some 53, op := Op.move (Operand.tmp 7), type := 60, pos := "law.go:107", after := #[{ on := 6, ground := Ground.guard }], guard := some (6, true) }) (v := ?v7) rfl (by kernel_rfl) (by kernel_rfl) (by kernel_rfl) (fun _ _ _ h => h) (Or.inl ⟨?g7, ?y7⟩) (by assumption) ?r7
  case g7 => rfl
  case y7 => (intro w hSw; (try dsimp only at hSw); go_simp; all_goals (with_reducible rfl))
  try simp only [Act.put, List.setIfInBounds_toArray, List.set_cons_zero, List.set_cons_succ]
  refine' wpAnyH_take (i := 8) (oi := { dst := some 54, op := Op.call { callee := Callee.builtin Builtin.len, args := #[Operand.tmp 53], argTypes := #[60] }, type := 3, pos := "law.go:107", after := #[{ on := 7, ground := Ground.data }, { on := 6, ground := Ground.guard }], guard := some (6, true) }) (v := ?v8) rfl (by kernel_rfl) (by kernel_rfl) (by kernel_rfl) (fun _ _ _ h => h) (Or.inl ⟨?g8, ?y8⟩) (by assumption) ?r8
  case g8 => rfl
  case y8 => (intro w hSw; (try dsimp only at hSw); go_simp; all_goals (with_reducible rfl))
  try simp only [Act.put, List.setIfInBounds_toArray, List.set_cons_zero, List.set_cons_succ]
  refine' wpAnyH_take (i := 9) (oi := { dst := some 55, op := Op.binOp BinOp.lss 3 (Operand.tmp 54) (Operand.const (Value.int IntKind.i64 2)) 3, type := 4, pos := "law.go:107", after := #[{ on := 8, ground := Ground.data }, { on := 6, ground := Ground.guard }], guard := some (6, true) }) (v := ?v9) rfl (by kernel_rfl) (by kernel_rfl) (by kernel_rfl) (fun _ _ _ h => h) (Or.inl ⟨?g9, ?y9⟩) (by assumption) ?r9
  case g9 => rfl
  case y9 => (intro w hSw; (try dsimp only at hSw); go_simp; all_goals (with_reducible rfl))
  try simp only [Act.put, List.setIfInBounds_toArray, List.set_cons_zero, List.set_cons_succ]
  refine' wpAnyH_take (i := 10) (oi := { dst := some 56, op := Op.move (Operand.tmp 55), type := 4, pos := "law.go:107", after := #[{ on := 9, ground := Ground.data }, { on := 6, ground := Ground.chain }, { on := 6, ground := Ground.guard }], guard := some (6, true) }) (v := ?v10) rfl (by kernel_rfl) (by kernel_rfl) (by kernel_rfl) (fun _ _ _ h => h) (Or.inl ⟨?g10, ?y10⟩) (by assumption) ?r10
  case g10 => rfl
  case y10 => (intro w hSw; (try dsimp only at hSw); go_simp; all_goals (with_reducible rfl))
  try simp only [Act.put, List.setIfInBounds_toArray, List.set_cons_zero, List.set_cons_succ]
  refine' wpAnyH_take (i := 11) (oi := { dst := some 57, op := Op.move (Operand.tmp 7), type := 60, pos := "law.go:107", after := #[{ on := 10, ground := Ground.guard }], guard := some (10, false) }) (v := undef) rfl (by kernel_rfl) (by kernel_rfl) (by kernel_rfl) (fun _ _ _ h => h) (Or.inr ⟨?g11, rfl⟩) (by assumption) ?r11
  case g11 => rfl
  try simp only [Act.put, List.setIfInBounds_toArray, List.set_cons_zero, List.set_cons_succ]
  refine' wpAnyH_take (i := 12) (oi := { dst := some 58, op := Op.indexAddr 60 (Operand.tmp 57) (Operand.const (Value.int IntKind.i64 1)), type := 0, pos := "law.go:107", after := #[{ on := 11, ground := Ground.data }, { on := 10, ground := Ground.guard }], guard := some (10, false) }) (v := undef) rfl (by kernel_rfl) (by kernel_rfl) (by kernel_rfl) (fun _ _ _ h => h) (Or.inr ⟨?g12, rfl⟩) (by assumption) ?r12
  case g12 => rfl
  try simp only [Act.put, List.setIfInBounds_toArray, List.set_cons_zero, List.set_cons_succ]
  refine' wpAnyH_take (i := 13) (oi := { dst := some 59, op := Op.load 3 (Operand.tmp 58), type := 3, pos := "law.go:107", after := #[{ on := 12, ground := Ground.data }, { on := 10, ground := Ground.guard }], guard := some (10, false) }) (v := undef) rfl (by kernel_rfl) (by kernel_rfl) (by kernel_rfl) (fun _ _ _ h => h) (Or.inr ⟨?g13, rfl⟩) (by assumption) ?r13
  case g13 => rfl
  try simp only [Act.put, List.setIfInBounds_toArray, List.set_cons_zero, List.set_cons_succ]
  refine' wpAnyH_take (i := 14) (oi := { dst := some 60, op := Op.move (Operand.tmp 7), type := 60, pos := "law.go:107", after := #[{ on := 10, ground := Ground.guard }], guard := some (10, false) }) (v := undef) rfl (by kernel_rfl) (by kernel_rfl) (by kernel_rfl) (fun _ _ _ h => h) (Or.inr ⟨?g14, rfl⟩) (by assumption) ?r14
  case g14 => rfl
  try simp only [Act.put, List.setIfInBounds_toArray, List.set_cons_zero, List.set_cons_succ]
  refine' wpAnyH_take (i := 15) (oi := { dst := some 61, op := Op.indexAddr 60 (Operand.tmp 60) (Operand.const (Value.int IntKind.i64 0)), type := 0, pos := "law.go:107", after := #[{ on := 14, ground := Ground.data }, { on := 10, ground := Ground.guard }], guard := some (10, false) }) (v := undef) rfl (by kernel_rfl) (by kernel_rfl) (by kernel_rfl) (fun _ _ _ h => h) (Or.inr ⟨?g15, rfl⟩) (by assumption) ?r15
  case g15 => rfl
  try simp only [Act.put, List.setIfInBounds_toArray, List.set_cons_zero, List.set_cons_succ]
  refine' wpAnyH_take (i := 16) (oi := { dst := some 62, op := Op.load 3 (Operand.tmp 61), type := 3, pos := "law.go:107", after := #[{ on := 15, ground := Ground.data }, { on := 10, ground := Ground.guard }], guard := some (10, false) }) (v := undef) rfl (by kernel_rfl) (by kernel_rfl) (by kernel_rfl) (fun _ _ _ h => h) (Or.inr ⟨?g16, rfl⟩) (by assumption) ?r16
  case g16 => rfl
  try simp only [Act.put, List.setIfInBounds_toArray, List.set_cons_zero, List.set_cons_succ]
  refine' wpAnyH_take (i := 17) (oi := { dst := some 63, op := Op.binOp BinOp.sub 3 (Operand.tmp 59) (Operand.tmp 62) 3, type := 3, pos := "law.go:107", after := #[{ on := 13, ground := Ground.data }, { on := 16, ground := Ground.data }, { on := 10, ground := Ground.guard }], guard := some (10, false) }) (v := undef) rfl (by kernel_rfl) (by kernel_rfl) (by kernel_rfl) (fun _ _ _ h => h) (Or.inr ⟨?g17, rfl⟩) (by assumption) ?r17
  case g17 => rfl
  try simp only [Act.put, List.setIfInBounds_toArray, List.set_cons_zero, List.set_cons_succ]
  refine' wpAnyH_take (i := 18) (oi := { dst := some 64, op := Op.fieldAddr 49 (Operand.tmp 3) 1, type := 0, pos := "law.go:107", after := #[{ on := 10, ground := Ground.guard }], guard := some (10, false) }) (v := undef) rfl (by kernel_rfl) (by kernel_rfl) (by kernel_rfl) (fun _ _ _ h => h) (Or.inr ⟨?g18, rfl⟩) (by assumption) ?r18
  case g18 => rfl
  try simp only [Act.put, List.setIfInBounds_toArray, List.set_cons_zero, List.set_cons_succ]
  refine' wpAnyH_take (i := 19) (oi := { dst := some 65, op := Op.load 3 (Operand.tmp 64), type := 3, pos := "law.go:107", after := #[{ on := 18, ground := Ground.data }, { on := 10, ground := Ground.guard }], guard := some (10, false) }) (v := undef) rfl (by kernel_rfl) (by kernel_rfl) (by kernel_rfl) (fun _ _ _ h => h) (Or.inr ⟨?g19, rfl⟩) (by assumption) ?r19
  case g19 => rfl
  try simp only [Act.put, List.setIfInBounds_toArray, List.set_cons_zero, List.set_cons_succ]
  refine' wpAnyH_take (i := 20) (oi := { dst := some 66, op := Op.binOp BinOp.eql 3 (Operand.tmp 63) (Operand.tmp 65) 3, type := 4, pos := "law.go:107", after := #[{ on := 17, ground := Ground.data }, { on := 19, ground := Ground.data }, { on := 10, ground := Ground.guard }], guard := some (10, false) }) (v := undef) rfl (by kernel_rfl) (by kernel_rfl) (by kernel_rfl) (fun _ _ _ h => h) (Or.inr ⟨?g20, rfl⟩) (by assumption) ?r20
  case g20 => rfl
  try simp only [Act.put, List.setIfInBounds_toArray, List.set_cons_zero, List.set_cons_succ]
  refine' wpAnyH_take (i := 21) (oi := { dst := some 67, op := Op.pick (Operand.tmp 56) (Operand.const (Value.bool true)) (Operand.tmp 66), type := 4, pos := "law.go:107", after := #[{ on := 10, ground := Ground.data }, { on := 20, ground := Ground.data }, { on := 6, ground := Ground.guard }], guard := some (6, true) }) (v := ?v21) rfl (by kernel_rfl) (by kernel_rfl) (by kernel_rfl) (fun _ _ _ h => h) (Or.inl ⟨?g21, ?y21⟩) (by assumption) ?r21
  case g21 => rfl
  case y21 => (intro w hSw; (try dsimp only at hSw); go_simp; all_goals (with_reducible rfl))
  try simp only [Act.put, List.setIfInBounds_toArray, List.set_cons_zero, List.set_cons_succ]
  refine' wpAnyH_take (i := 22) (oi := { dst := some 68, op := Op.pick (Operand.tmp 52) (Operand.tmp 67) (Operand.const (Value.bool false)), type := 4, pos := "law.go:107", after := #[{ on := 6, ground := Ground.data }, { on := 21, ground := Ground.data }], guard := none }) (v := ?v22) rfl (by kernel_rfl) (by kernel_rfl) (by kernel_rfl) (fun _ _ _ h => h) (Or.inl ⟨?g22, ?y22⟩) (by assumption) ?r22
  case g22 => rfl
  case y22 => (intro w hSw; (try dsimp only at hSw); go_simp; all_goals (with_reducible rfl))
  try simp only [Act.put, List.setIfInBounds_toArray, List.set_cons_zero, List.set_cons_succ]
  refine' wpAnyH_take (i := 23) (oi := { dst := some 6, op := Op.assign (Operand.tmp 68), type := 4, pos := "law.go:107", after := #[{ on := 22, ground := Ground.data }, { on := 10, ground := Ground.chain }, { on := 0, ground := Ground.phase }, { on := 1, ground := Ground.phase }, { on := 2, ground := Ground.phase }, { on := 3, ground := Ground.phase }, { on := 4, ground := Ground.phase }, { on := 5, ground := Ground.phase }, { on := 6, ground := Ground.phase }, { on := 7, ground := Ground.phase }, { on := 8, ground := Ground.phase }, { on := 9, ground := Ground.phase }, { on := 10, ground := Ground.phase }, { on := 11, ground := Ground.phase }, { on := 12, ground := Ground.phase }, { on := 13, ground := Ground.phase }, { on := 14, ground := Ground.phase }, { on := 15, ground := Ground.phase }, { on := 16, ground := Ground.phase }, { on := 17, ground := Ground.phase }, { on := 18, ground := Ground.phase }, { on := 19, ground := Ground.phase }, { on := 20, ground := Ground.phase }, { on := 21, ground := Ground.phase }, { on := 22, ground := Ground.phase }], guard := none }) (v := ?v23) rfl (by kernel_rfl) (by kernel_rfl) (by kernel_rfl) (fun _ _ _ h => h) (Or.inl ⟨?g23, ?y23⟩) (by assumption) ?r23
  case g23 => rfl
  case y23 => (intro w hSw; (try dsimp only at hSw); go_simp; all_goals (with_reducible rfl))
  try simp only [Act.put, List.setIfInBounds_toArray, List.set_cons_zero, List.set_cons_succ]
  refine wpAnyH_done (by kernel_rfl) ?_ _
  go_wp2
  go_ret
  exact ⟨rfl, HB.out.trans (hHeld.mono HB.out.size)⟩

set_option maxHeartbeats 4000000 in
theorem walk_ZoneMany (b s m k d t m' k' d' t' n u : Int) (v0 : (Lit.int .i64 b).wf = true) (v1 : (Lit.int .i64 s).wf = true) (v2 : (Lit.int .i64 m).wf = true) (v3 : (Lit.int .i64 k).wf = true) (v4 : (Lit.int .i64 d).wf = true) (v5 : (Lit.int .i64 t).wf = true) (v6 : (Lit.int .i64 m').wf = true) (v7 : (Lit.int .i64 k').wf = true) (v8 : (Lit.int .i64 d').wf = true) (v9 : (Lit.int .i64 t').wf = true) (vn : (Lit.int .i64 n).wf = true) (vu : (Lit.int .i64 u).wf = true) (w : World) (ht : Tab w) : Calls Tryd.prog 18 #[.agg #[.int .i64 b, .int .i64 s, .int .i64 m, .int .i64 k, .int .i64 d, .int .i64 t, .int .i64 m', .int .i64 k', .int .i64 d', .int .i64 t'], .int .i64 n, .int .i64 u] w fun e w' => e = .returned (.bool true) ∧ Below w.heap.size w w' := by
  by_cases hz : zErr ⟨b, s, m, k, d, t, m', k', d', t'⟩ = 0
  · by_cases hd : DayOk n u
    · obtain ⟨T, hT⟩ : ∃ T, n * 1440 + u - b = T := ⟨_, rfl⟩
      have sb := zErr_sb hz
      obtain ⟨hb1, hb2⟩ := zErr_b hz
      have d0 := hd
      obtain ⟨d1, d2, d3, d4⟩ := d0
      have c5 := inst_five (z := ⟨b, s, m, k, d, t, m', k', d', t'⟩) T sb.1
      simp only at sb hb1 hb2 c5
      have t1 : 576000 ≤ T := by omega
      have t2 : T ≤ 5258879999 := by omega
      rcases c5 with ⟨s0, _, hx⟩ | ⟨s0, _, _, hx⟩ | ⟨s0, _, _, hx⟩ | ⟨s0, _, _, hx⟩ | ⟨s0, _, _, hx⟩
      · exact zmany_plain b s m k d t m' k' d' t' n u T w ht hz hd hT (beq_iff_eq.2 s0) hx t1 t2 sb.1 sb.2 hb1 hb2
      · exact zmany_two b s m k d t m' k' d' t' n u T w ht hz hd hT (beq_eq_false_iff_ne.2 (by omega)) hx t1 t2 sb.1 sb.2 hb1 hb2
      · exact zmany_early b s m k d t m' k' d' t' n u T w ht hz hd hT (beq_eq_false_iff_ne.2 (by omega)) hx t1 t2 sb.1 sb.2 hb1 hb2
      · exact zmany_none b s m k d t m' k' d' t' n u T w ht hz hd hT (beq_eq_false_iff_ne.2 (by omega)) hx t1 t2 sb.1 sb.2 hb1 hb2
      · exact zmany_late b s m k d t m' k' d' t' n u T w ht hz hd hT (beq_eq_false_iff_ne.2 (by omega)) hx t1 t2 sb.1 sb.2 hb1 hb2
    · skip
      have hA := (Below.refl w.heap.size w).alloc (Nat.le_refl _) (.cells #[.int .i64 b, .int .i64 s, .int .i64 m, .int .i64 k, .int .i64 d, .int .i64 t, .int .i64 m', .int .i64 k', .int .i64 d', .int .i64 t'] 49)
      have kA := BlockIs.new w #[.int .i64 b, .int .i64 s, .int .i64 m, .int .i64 k, .int .i64 d, .int .i64 t, .int .i64 m', .int .i64 k', .int .i64 d', .int .i64 t'] 49
      have htA := ht.below hA
      go_enter Tryd.func18, Tryd.ntmps18
      go_wp2_with fail
      refine (zinst_day _ _ _ _ _ _ _ _ _ _ _ _ _ hz hd).mono ?_; rintro e w1 ⟨rfl, hb⟩
      have k1 := kA.kept hb
      have h1 := hA.trans (hb.mono hA.size)
      have ht1 := htA.below hb
      clear hb kA hA htA
      obtain ⟨z0, z1, z2, z3, z4, z5, z6, z7, z8, z9⟩ := zone_cells k1
      go_wp2_with fail
      refine (awake6 _ ht1).mono ?_; rintro e w2 ⟨rfl, hb⟩
      have k2 := k1.kept hb
      have h2 := h1.trans (hb.mono h1.size)
      have ht2 := ht1.below hb
      clear hb k1 h1 ht1 z0 z1 z2 z3 z4 z5 z6 z7 z8 z9
      obtain ⟨z0, z1, z2, z3, z4, z5, z6, z7, z8, z9⟩ := zone_cells k2
      have HB := Lib.hid h2
      clear h2
      go_wp2
      go_ret
      exact ⟨rfl, HB.out⟩
  · have h0 : zErr ⟨b, s, m, k, d, t, m', k', d', t'⟩ ≠ 0 := hz
    clear hz
    obtain ⟨r, hz⟩ : ∃ r, zErr ⟨b, s, m, k, d, t, m', k', d', t'⟩ = r := ⟨_, rfl⟩
    rw [hz] at h0
    have hne : (r != 0) = true := by simpa using h0
    have hA := (Below.refl w.heap.size w).alloc (Nat.le_refl _) (.cells #[.int .i64 b, .int .i64 s, .int .i64 m, .int .i64 k, .int .i64 d, .int .i64 t, .int .i64 m', .int .i64 k', .int .i64 d', .int .i64 t'] 49)
    have kA := BlockIs.new w #[.int .i64 b, .int .i64 s, .int .i64 m, .int .i64 k, .int .i64 d, .int .i64 t, .int .i64 m', .int .i64 k', .int .i64 d', .int .i64 t'] 49
    have htA := ht.below hA
    go_enter Tryd.func18, Tryd.ntmps18
    go_wp2_with fail
    refine (zinst_zone _ _ _ _ _ _ _ _ _ _ _ _ r _ hz h0).mono ?_; rintro e w1 ⟨rfl, hb⟩
    have k1 := kA.kept hb
    have h1 := hA.trans (hb.mono hA.size)
    have ht1 := htA.below hb
    clear hb kA hA htA
    obtain ⟨z0, z1, z2, z3, z4, z5, z6, z7, z8, z9⟩ := zone_cells k1
    go_wp2_with fail
    refine (awake6 _ ht1).mono ?_; rintro e w2 ⟨rfl, hb⟩
    have k2 := k1.kept hb
    have h2 := h1.trans (hb.mono h1.size)
    have ht2 := ht1.below hb
    clear hb k1 h1 ht1 z0 z1 z2 z3 z4 z5 z6 z7 z8 z9
    obtain ⟨z0, z1, z2, z3, z4, z5, z6, z7, z8, z9⟩ := zone_cells k2
    have HB := Lib.hid h2
    clear h2
    go_wp2
    go_ret
    exact ⟨rfl, HB.out⟩

end Go.Proofs.YtdjfmcomeaijgaaDoor
