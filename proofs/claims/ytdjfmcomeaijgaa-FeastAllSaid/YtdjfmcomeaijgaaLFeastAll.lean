/- FeastAll: a year has 8 days of feasts, abroad 13; they rise: the walk. -/
import Derived.Test.YtdjfmcomeaijgaaFQ
namespace Go.Proofs.Ytdjfmcomeaijgaa
open Go Go.RowKit
set_option linter.unusedVariables false
set_option linter.unusedSimpArgs false

theorem keepF4 {p o1 o2 o3 o4 : Nat} {v1 v2 v3 v4 : Value} {n : Nat} {w0 W w2 : World} (h : W.cell? ⟨p, o1, none⟩ = some v1 ∧ W.cell? ⟨p, o2, none⟩ = some v2 ∧ W.cell? ⟨p, o3, none⟩ = some v3 ∧ W.cell? ⟨p, o4, none⟩ = some v4 ∧ Below n w0 W) (hb : Below W.heap.size W w2) (hn : n ≤ w0.heap.size) :
    w2.cell? ⟨p, o1, none⟩ = some v1 ∧ w2.cell? ⟨p, o2, none⟩ = some v2 ∧ w2.cell? ⟨p, o3, none⟩ = some v3 ∧ w2.cell? ⟨p, o4, none⟩ = some v4 ∧ Below n w0 w2 := by
  obtain ⟨h1, h2, h3, h4, hB⟩ := h
  have hs := hB.size
  have g : ∀ {b o : Nat} {v : Value}, W.cell? ⟨b, o, none⟩ = some v → w2.cell? ⟨b, o, none⟩ = some v := fun {b o v} x => (hb.cell (p := ⟨b, o, none⟩) (World.block_lt_of_cell? W _ x)).trans x
  exact ⟨g h1, g h2, g h3, g h4, hB.trans (hb.mono (by omega))⟩

/-- The row's cells, kept. -/
def CellsF (w : World) (g : Nat) (xs : List (Int × Int)) : Prop := ∀ i x, xs[i]? = some x → w.cell? ⟨g, i * 2, none⟩ = some (.int .i64 x.1) ∧ w.cell? ⟨g, i * 2 + 1, none⟩ = some (.int .i64 x.2)
theorem CellsF.below {w w' : World} {g : Nat} {xs : List (Int × Int)} (h : CellsF w g xs) (hb : Below w.heap.size w w') : CellsF w' g xs := fun i x hx => by
  obtain ⟨a1, a2⟩ := h i x hx
  exact ⟨(hb.cell (p := ⟨g, _, none⟩) (World.block_lt_of_cell? w _ a1)).trans a1, (hb.cell (p := ⟨g, _, none⟩) (World.block_lt_of_cell? w _ a2)).trans a2⟩

set_option maxRecDepth 100000 in
set_option maxHeartbeats 8000000 in
theorem fall_ok (h : Int) (ab : Bool) (N : Nat) (xs : List (Int × Int)) (w : World) (hy : Yr h) (hx : feasts (ylen h) (ny h) ab = xs) (hN : xs.length = N) (hN2 : (if ab then 13 else 8) = N) :
    Calls Try.prog 20 #[.int .i64 h, .bool ab] w fun e w' => e = .returned (.bool true) ∧ Below w.heap.size w w' := by
  have lb := (ylen_bd hy).1
  have F := Lib.hid (show ∀ x ∈ xs, KindN x.2 ab x.1 ∧ RestP x.2 ab ∧ -2000000 ≤ x.2 ∧ x.2 ≤ 4000000 ∧ 1 ≤ x.1 ∧ x.1 ≤ 7 by rw [← hx]; exact feast_facts hy ab)
  have R := Lib.hid (show ∀ (j : Nat) (p q : Int × Int), xs[j]? = some p → xs[j + 1]? = some q → p.2 < q.2 ∧ p.1 ≤ q.1 by rw [← hx]; exact fun j p q => rise_at ab lb)
  have e0 : xs[0]? = some (1, ny h + 0) := by rw [← hx]; cases ab <;> rfl
  have nb := ny_bd h (by have := hy.1; omega) (by have := hy.2; omega)
  obtain ⟨nb1, nb2⟩ := nb
  have hx := Lib.hid hx
  have n0 : 8 ≤ N ∧ N ≤ 13 := by cases ab <;> simp at hN2 <;> omega
  go_enter Try.func20, Try.ntmps20
  go_wp2_with fail
  refine (flist_row _ _ xs _ hy hx.out).mono ?_; rintro e w1 ⟨out, rfl, ro, h1⟩
  obtain ⟨g, cap, rfl, hc⟩ := rowF_some ro N hN (by omega)
  have hc : CellsF w1 g xs := hc
  clear ro
  go_wp2_with fail
  refine (newyear_ok _ _ hy).mono ?_; rintro e w' ⟨rfl, rfl⟩
  have d0 : w1.cell? ⟨g, 1, none⟩ = some (.int .i64 (ny h)) := by simpa using (hc 0 _ e0).2
  have HC := Lib.hid hc
  have HE := Lib.hid hN
  clear hc hN lb e0
  cases ab
  · simp only [Bool.false_eq_true, if_false, if_true] at hN2
    subst hN2
    go_wp2_with fail
    clear d0
    go_loopw [10] (fun x wr => ∃ i : Nat, i ≤ 8 ∧ x = .int .i64 (i : Int) ∧ CellsF wr g xs ∧ Below w.heap.size w wr) (fun x _ => (8 - intOf x).toNat)
    case atStart => exact ⟨0, by omega, rfl, HC.out, h1⟩
    case round =>
      clear h1 HC
      obtain ⟨i, hi, rfl, hc, hB⟩ := hrel
      have HC := Lib.hid hc
      by_cases c : i < 8
      · obtain ⟨⟨K, D⟩, hK⟩ : ∃ x, xs[i]? = some x := ⟨xs[i]'(by rw [HE.out]; exact c), by simp⟩
        obtain ⟨hk, hr, b1, b2, b3, b4⟩ := F.out _ (List.mem_of_getElem? hK)
        obtain ⟨c0, c1⟩ := hc i _ hK
        simp only at hk hr b1 b2 b3 b4 c0 c1
        have hk := Lib.hid hk
        have hr := Lib.hid hr
        have hI : I64 D := by unfold I64; omega
        have HB := Lib.hid hB
        by_cases c00 : i = 0
        · have e' : (i : Int) = 0 := by omega
          rw [e']
          clear e'
          subst c00
          clear hc hB hK
          simp only [Nat.zero_mul, Nat.zero_add] at c0 c1
          go_wp2_with fail
          refine wp_region_held_drew (S := fun w' => w'.cell? ⟨g, 0, none⟩ = some (.int .i64 K) ∧ w'.cell? ⟨g, 1, none⟩ = some (.int .i64 D) ∧ Below wr.heap.size wr w') (by kernel_rfl) ⟨c0, c1, (Below.refl _ _).drew⟩ (fun hHeld => ?_)
          refine' wpAnyH_take (i := 0) (oi := { dst := some 57, op := Op.move (Operand.tmp 5), type := 46, pos := "law.go:90", after := #[], guard := none }) (v := ?vmf0) rfl (by kernel_rfl) (by kernel_rfl) (by kernel_rfl) (fun _ _ _ h => h) (Or.inl ⟨?gmf0, ?ymf0⟩) (by assumption) ?rmf0
          case gmf0 => rfl
          case ymf0 => (intro w hSw; (try dsimp only at hSw); go_simp; all_goals (with_reducible rfl))
          try simp only [Act.put, List.setIfInBounds_toArray, List.set_cons_zero, List.set_cons_succ]
          refine' wpAnyH_take (i := 1) (oi := { dst := some 58, op := Op.move (Operand.tmp 10), type := 3, pos := "law.go:90", after := #[], guard := none }) (v := ?vmf1) rfl (by kernel_rfl) (by kernel_rfl) (by kernel_rfl) (fun _ _ _ h => h) (Or.inl ⟨?gmf1, ?ymf1⟩) (by assumption) ?rmf1
          case gmf1 => rfl
          case ymf1 => (intro w hSw; (try dsimp only at hSw); go_simp; all_goals (with_reducible rfl))
          try simp only [Act.put, List.setIfInBounds_toArray, List.set_cons_zero, List.set_cons_succ]
          refine' wpAnyH_take (i := 2) (oi := { dst := some 59, op := Op.indexAddr 46 (Operand.tmp 57) (Operand.tmp 58), type := 0, pos := "law.go:90", after := #[{ on := 0, ground := Ground.data }, { on := 1, ground := Ground.data }], guard := none }) (v := ?vmf2) rfl (by kernel_rfl) (by kernel_rfl) (by kernel_rfl) (fun _ _ _ h => h) (Or.inl ⟨?gmf2, ?ymf2⟩) (by assumption) ?rmf2
          case gmf2 => rfl
          case ymf2 => (intro w hSw; (try dsimp only at hSw); go_simp; all_goals (with_reducible rfl))
          try simp only [Act.put, List.setIfInBounds_toArray, List.set_cons_zero, List.set_cons_succ]
          refine' wpAnyH_take (i := 3) (oi := { dst := some 60, op := Op.fieldAddr 56 (Operand.tmp 59) 1, type := 0, pos := "law.go:90", after := #[{ on := 2, ground := Ground.data }], guard := none }) (v := ?vmf3) rfl (by kernel_rfl) (by kernel_rfl) (by kernel_rfl) (fun _ _ _ h => h) (Or.inl ⟨?gmf3, ?ymf3⟩) (by assumption) ?rmf3
          case gmf3 => rfl
          case ymf3 => (intro w hSw; (try dsimp only at hSw); go_simp; all_goals (with_reducible rfl))
          try simp only [Act.put, List.setIfInBounds_toArray, List.set_cons_zero, List.set_cons_succ]
          refine' wpAnyH_take (i := 4) (oi := { dst := some 61, op := Op.load 3 (Operand.tmp 60), type := 3, pos := "law.go:90", after := #[{ on := 3, ground := Ground.data }], guard := none }) (v := ?vmf4) rfl (by kernel_rfl) (by kernel_rfl) (by kernel_rfl) (fun _ _ _ h => h) (Or.inl ⟨?gmf4, ?ymf4⟩) (by assumption) ?rmf4
          case gmf4 => rfl
          case ymf4 => (intro w hSw; (try dsimp only at hSw); go_simp; all_goals (with_reducible rfl))
          try simp only [Act.put, List.setIfInBounds_toArray, List.set_cons_zero, List.set_cons_succ]
          refine' wpAnyH_take (i := 5) (oi := { dst := some 62, op := Op.move (Operand.tmp 1), type := 4, pos := "law.go:90", after := #[], guard := none }) (v := ?vmf5) rfl (by kernel_rfl) (by kernel_rfl) (by kernel_rfl) (fun _ _ _ h => h) (Or.inl ⟨?gmf5, ?ymf5⟩) (by assumption) ?rmf5
          case gmf5 => rfl
          case ymf5 => (intro w hSw; (try dsimp only at hSw); go_simp; all_goals (with_reducible rfl))
          try simp only [Act.put, List.setIfInBounds_toArray, List.set_cons_zero, List.set_cons_succ]
          refine' wpAnyH_take (i := 7) (oi := { dst := some 64, op := Op.move (Operand.tmp 5), type := 46, pos := "law.go:90", after := #[], guard := none }) (v := ?vmf7) rfl (by kernel_rfl) (by kernel_rfl) (by kernel_rfl) (fun _ _ _ h => h) (Or.inl ⟨?gmf7, ?ymf7⟩) (by assumption) ?rmf7
          case gmf7 => rfl
          case ymf7 => (intro w hSw; (try dsimp only at hSw); go_simp; all_goals (with_reducible rfl))
          try simp only [Act.put, List.setIfInBounds_toArray, List.set_cons_zero, List.set_cons_succ]
          refine' wpAnyH_take (i := 8) (oi := { dst := some 65, op := Op.move (Operand.tmp 10), type := 3, pos := "law.go:90", after := #[], guard := none }) (v := ?vmf8) rfl (by kernel_rfl) (by kernel_rfl) (by kernel_rfl) (fun _ _ _ h => h) (Or.inl ⟨?gmf8, ?ymf8⟩) (by assumption) ?rmf8
          case gmf8 => rfl
          case ymf8 => (intro w hSw; (try dsimp only at hSw); go_simp; all_goals (with_reducible rfl))
          try simp only [Act.put, List.setIfInBounds_toArray, List.set_cons_zero, List.set_cons_succ]
          refine' wpAnyH_take (i := 9) (oi := { dst := some 66, op := Op.indexAddr 46 (Operand.tmp 64) (Operand.tmp 65), type := 0, pos := "law.go:90", after := #[{ on := 7, ground := Ground.data }, { on := 8, ground := Ground.data }], guard := none }) (v := ?vmf9) rfl (by kernel_rfl) (by kernel_rfl) (by kernel_rfl) (fun _ _ _ h => h) (Or.inl ⟨?gmf9, ?ymf9⟩) (by assumption) ?rmf9
          case gmf9 => rfl
          case ymf9 => (intro w hSw; (try dsimp only at hSw); go_simp; all_goals (with_reducible rfl))
          try simp only [Act.put, List.setIfInBounds_toArray, List.set_cons_zero, List.set_cons_succ]
          refine' wpAnyH_take (i := 10) (oi := { dst := some 67, op := Op.fieldAddr 56 (Operand.tmp 66) 0, type := 0, pos := "law.go:90", after := #[{ on := 9, ground := Ground.data }], guard := none }) (v := ?vmf10) rfl (by kernel_rfl) (by kernel_rfl) (by kernel_rfl) (fun _ _ _ h => h) (Or.inl ⟨?gmf10, ?ymf10⟩) (by assumption) ?rmf10
          case gmf10 => rfl
          case ymf10 => (intro w hSw; (try dsimp only at hSw); go_simp; all_goals (with_reducible rfl))
          try simp only [Act.put, List.setIfInBounds_toArray, List.set_cons_zero, List.set_cons_succ]
          refine' wpAnyH_take (i := 11) (oi := { dst := some 68, op := Op.load 3 (Operand.tmp 67), type := 3, pos := "law.go:90", after := #[{ on := 10, ground := Ground.data }], guard := none }) (v := ?vmf11) rfl (by kernel_rfl) (by kernel_rfl) (by kernel_rfl) (fun _ _ _ h => h) (Or.inl ⟨?gmf11, ?ymf11⟩) (by assumption) ?rmf11
          case gmf11 => rfl
          case ymf11 => (intro w hSw; (try dsimp only at hSw); go_simp; all_goals (with_reducible rfl))
          try simp only [Act.put, List.setIfInBounds_toArray, List.set_cons_zero, List.set_cons_succ]
          refine wpAnyH_ready (rs := [6]) (by kernel_rfl) (by simp) ?_
          refine' AllReadyH.cons (o := { dst := some 63, op := Op.call { callee := Callee.value (Operand.func 48), args := #[Operand.tmp 61, Operand.tmp 62], argTypes := #[3, 4] }, type := 3, pos := "law.go:90", after := #[{ on := 4, ground := Ground.data }, { on := 5, ground := Ground.data }], guard := none }) rfl (fun KK hKK => ?smf6) AllReadyH.nil
          go_simp
          refine (fKind_any _ K false _ hk.out).mono ?_; rintro e w4 ⟨rfl, hb⟩
          refine' hKK.out _ _ ?hmf6 (fun hHeld => ?rmf6)
          case hmf6 => exact ⟨(hb.cell (p := ⟨g, 0, none⟩) (World.block_lt_of_cell? _ _ hHeld.1)).trans hHeld.1, (hb.cell (p := ⟨g, 1, none⟩) (World.block_lt_of_cell? _ _ hHeld.2.1)).trans hHeld.2.1, hHeld.2.2.trans (hb.mono hHeld.2.2.size)⟩
          clear hKK KK
          try simp only [Act.put, List.setIfInBounds_toArray, List.set_cons_zero, List.set_cons_succ]
          refine' wpAnyH_take (i := 12) (oi := { dst := some 69, op := Op.binOp BinOp.neq 3 (Operand.tmp 63) (Operand.tmp 68) 3, type := 4, pos := "law.go:90", after := #[{ on := 6, ground := Ground.data }, { on := 11, ground := Ground.data }], guard := none }) (v := ?vmf12) rfl (by kernel_rfl) (by kernel_rfl) (by kernel_rfl) (fun _ _ _ h => h) (Or.inl ⟨?gmf12, ?ymf12⟩) (by assumption) ?rmf12
          case gmf12 => rfl
          case ymf12 => (intro w hSw; (try dsimp only at hSw); go_simp; all_goals (with_reducible rfl))
          try simp only [Act.put, List.setIfInBounds_toArray, List.set_cons_zero, List.set_cons_succ]
          refine' wpAnyH_take (i := 13) (oi := { dst := some 70, op := Op.move (Operand.tmp 69), type := 4, pos := "law.go:90", after := #[{ on := 12, ground := Ground.data }, { on := 6, ground := Ground.chain }], guard := none }) (v := ?vmf13) rfl (by kernel_rfl) (by kernel_rfl) (by kernel_rfl) (fun _ _ _ h => h) (Or.inl ⟨?gmf13, ?ymf13⟩) (by assumption) ?rmf13
          case gmf13 => rfl
          case ymf13 => (intro w hSw; (try dsimp only at hSw); go_simp; all_goals (with_reducible rfl))
          try simp only [Act.put, List.setIfInBounds_toArray, List.set_cons_zero, List.set_cons_succ]
          refine' wpAnyH_take (i := 14) (oi := { dst := some 71, op := Op.move (Operand.tmp 5), type := 46, pos := "law.go:90", after := #[{ on := 13, ground := Ground.guard }], guard := some (13, false) }) (v := ?vmf14) rfl (by kernel_rfl) (by kernel_rfl) (by kernel_rfl) (fun _ _ _ h => h) (Or.inl ⟨?gmf14, ?ymf14⟩) (by assumption) ?rmf14
          case gmf14 => rfl
          case ymf14 => (intro w hSw; (try dsimp only at hSw); go_simp; all_goals (with_reducible rfl))
          try simp only [Act.put, List.setIfInBounds_toArray, List.set_cons_zero, List.set_cons_succ]
          refine' wpAnyH_take (i := 15) (oi := { dst := some 72, op := Op.move (Operand.tmp 10), type := 3, pos := "law.go:90", after := #[{ on := 13, ground := Ground.guard }], guard := some (13, false) }) (v := ?vmf15) rfl (by kernel_rfl) (by kernel_rfl) (by kernel_rfl) (fun _ _ _ h => h) (Or.inl ⟨?gmf15, ?ymf15⟩) (by assumption) ?rmf15
          case gmf15 => rfl
          case ymf15 => (intro w hSw; (try dsimp only at hSw); go_simp; all_goals (with_reducible rfl))
          try simp only [Act.put, List.setIfInBounds_toArray, List.set_cons_zero, List.set_cons_succ]
          refine' wpAnyH_take (i := 16) (oi := { dst := some 73, op := Op.indexAddr 46 (Operand.tmp 71) (Operand.tmp 72), type := 0, pos := "law.go:90", after := #[{ on := 14, ground := Ground.data }, { on := 15, ground := Ground.data }, { on := 13, ground := Ground.guard }], guard := some (13, false) }) (v := ?vmf16) rfl (by kernel_rfl) (by kernel_rfl) (by kernel_rfl) (fun _ _ _ h => h) (Or.inl ⟨?gmf16, ?ymf16⟩) (by assumption) ?rmf16
          case gmf16 => rfl
          case ymf16 => (intro w hSw; (try dsimp only at hSw); go_simp; all_goals (with_reducible rfl))
          try simp only [Act.put, List.setIfInBounds_toArray, List.set_cons_zero, List.set_cons_succ]
          refine' wpAnyH_take (i := 17) (oi := { dst := some 74, op := Op.fieldAddr 56 (Operand.tmp 73) 1, type := 0, pos := "law.go:90", after := #[{ on := 16, ground := Ground.data }, { on := 13, ground := Ground.guard }], guard := some (13, false) }) (v := ?vmf17) rfl (by kernel_rfl) (by kernel_rfl) (by kernel_rfl) (fun _ _ _ h => h) (Or.inl ⟨?gmf17, ?ymf17⟩) (by assumption) ?rmf17
          case gmf17 => rfl
          case ymf17 => (intro w hSw; (try dsimp only at hSw); go_simp; all_goals (with_reducible rfl))
          try simp only [Act.put, List.setIfInBounds_toArray, List.set_cons_zero, List.set_cons_succ]
          refine' wpAnyH_take (i := 18) (oi := { dst := some 75, op := Op.load 3 (Operand.tmp 74), type := 3, pos := "law.go:90", after := #[{ on := 17, ground := Ground.data }, { on := 13, ground := Ground.guard }], guard := some (13, false) }) (v := ?vmf18) rfl (by kernel_rfl) (by kernel_rfl) (by kernel_rfl) (fun _ _ _ h => h) (Or.inl ⟨?gmf18, ?ymf18⟩) (by assumption) ?rmf18
          case gmf18 => rfl
          case ymf18 => (intro w hSw; (try dsimp only at hSw); go_simp; all_goals (with_reducible rfl))
          try simp only [Act.put, List.setIfInBounds_toArray, List.set_cons_zero, List.set_cons_succ]
          refine' wpAnyH_take (i := 19) (oi := { dst := some 76, op := Op.move (Operand.tmp 1), type := 4, pos := "law.go:90", after := #[{ on := 13, ground := Ground.guard }], guard := some (13, false) }) (v := ?vmf19) rfl (by kernel_rfl) (by kernel_rfl) (by kernel_rfl) (fun _ _ _ h => h) (Or.inl ⟨?gmf19, ?ymf19⟩) (by assumption) ?rmf19
          case gmf19 => rfl
          case ymf19 => (intro w hSw; (try dsimp only at hSw); go_simp; all_goals (with_reducible rfl))
          try simp only [Act.put, List.setIfInBounds_toArray, List.set_cons_zero, List.set_cons_succ]
          refine wpAnyH_ready (rs := [20]) (by kernel_rfl) (by simp) ?_
          refine' AllReadyH.cons (o := { dst := some 77, op := Op.call { callee := Callee.value (Operand.func 50), args := #[Operand.tmp 75, Operand.tmp 76], argTypes := #[3, 4] }, type := 4, pos := "law.go:90", after := #[{ on := 18, ground := Ground.data }, { on := 19, ground := Ground.data }, { on := 13, ground := Ground.chain }, { on := 13, ground := Ground.guard }], guard := some (13, false) }) rfl (fun KK hKK => ?smf20) AllReadyH.nil
          go_simp
          refine (fRest_yes _ false _ hI hr.out).mono ?_; rintro e w5 ⟨rfl, hb⟩
          refine' hKK.out _ _ ?hmf20 (fun hHeld => ?rmf20)
          case hmf20 => exact ⟨(hb.cell (p := ⟨g, 0, none⟩) (World.block_lt_of_cell? _ _ hHeld.1)).trans hHeld.1, (hb.cell (p := ⟨g, 1, none⟩) (World.block_lt_of_cell? _ _ hHeld.2.1)).trans hHeld.2.1, hHeld.2.2.trans (hb.mono hHeld.2.2.size)⟩
          clear hKK KK
          try simp only [Act.put, List.setIfInBounds_toArray, List.set_cons_zero, List.set_cons_succ]
          refine' wpAnyH_take (i := 21) (oi := { dst := some 78, op := Op.unOp UnOp.not 4 (Operand.tmp 77), type := 4, pos := "law.go:90", after := #[{ on := 20, ground := Ground.data }, { on := 13, ground := Ground.guard }], guard := some (13, false) }) (v := ?vmf21) rfl (by kernel_rfl) (by kernel_rfl) (by kernel_rfl) (fun _ _ _ h => h) (Or.inl ⟨?gmf21, ?ymf21⟩) (by assumption) ?rmf21
          case gmf21 => rfl
          case ymf21 => (intro w hSw; (try dsimp only at hSw); go_simp; all_goals (with_reducible rfl))
          try simp only [Act.put, List.setIfInBounds_toArray, List.set_cons_zero, List.set_cons_succ]
          refine' wpAnyH_take (i := 22) (oi := { dst := some 79, op := Op.pick (Operand.tmp 70) (Operand.const (Value.bool true)) (Operand.tmp 78), type := 4, pos := "law.go:90", after := #[{ on := 13, ground := Ground.data }, { on := 21, ground := Ground.data }], guard := none }) (v := ?vmf22) rfl (by kernel_rfl) (by kernel_rfl) (by kernel_rfl) (fun _ _ _ h => h) (Or.inl ⟨?gmf22, ?ymf22⟩) (by assumption) ?rmf22
          case gmf22 => rfl
          case ymf22 => (intro w hSw; (try dsimp only at hSw); go_simp; all_goals (with_reducible rfl))
          try simp only [Act.put, List.setIfInBounds_toArray, List.set_cons_zero, List.set_cons_succ]
          refine' wpAnyH_take (i := 23) (oi := { dst := some 80, op := Op.move (Operand.tmp 79), type := 4, pos := "law.go:90", after := #[{ on := 22, ground := Ground.data }, { on := 20, ground := Ground.chain }], guard := none }) (v := ?vmf23) rfl (by kernel_rfl) (by kernel_rfl) (by kernel_rfl) (fun _ _ _ h => h) (Or.inl ⟨?gmf23, ?ymf23⟩) (by assumption) ?rmf23
          case gmf23 => rfl
          case ymf23 => (intro w hSw; (try dsimp only at hSw); go_simp; all_goals (with_reducible rfl))
          try simp only [Act.put, List.setIfInBounds_toArray, List.set_cons_zero, List.set_cons_succ]
          refine' wpAnyH_take (i := 24) (oi := { dst := some 81, op := Op.move (Operand.tmp 10), type := 3, pos := "law.go:90", after := #[{ on := 23, ground := Ground.guard }], guard := some (23, false) }) (v := ?vmf24) rfl (by kernel_rfl) (by kernel_rfl) (by kernel_rfl) (fun _ _ _ h => h) (Or.inl ⟨?gmf24, ?ymf24⟩) (by assumption) ?rmf24
          case gmf24 => rfl
          case ymf24 => (intro w hSw; (try dsimp only at hSw); go_simp; all_goals (with_reducible rfl))
          try simp only [Act.put, List.setIfInBounds_toArray, List.set_cons_zero, List.set_cons_succ]
          refine' wpAnyH_take (i := 25) (oi := { dst := some 82, op := Op.binOp BinOp.gtr 3 (Operand.tmp 81) (Operand.const (Value.int IntKind.i64 0)) 3, type := 4, pos := "law.go:90", after := #[{ on := 24, ground := Ground.data }, { on := 23, ground := Ground.guard }], guard := some (23, false) }) (v := ?vmf25) rfl (by kernel_rfl) (by kernel_rfl) (by kernel_rfl) (fun _ _ _ h => h) (Or.inl ⟨?gmf25, ?ymf25⟩) (by assumption) ?rmf25
          case gmf25 => rfl
          case ymf25 => (intro w hSw; (try dsimp only at hSw); go_simp; all_goals (with_reducible rfl))
          try simp only [Act.put, List.setIfInBounds_toArray, List.set_cons_zero, List.set_cons_succ]
          refine' wpAnyH_take (i := 26) (oi := { dst := some 83, op := Op.move (Operand.tmp 82), type := 4, pos := "law.go:90", after := #[{ on := 25, ground := Ground.data }, { on := 23, ground := Ground.chain }, { on := 23, ground := Ground.guard }], guard := some (23, false) }) (v := ?vmf26) rfl (by kernel_rfl) (by kernel_rfl) (by kernel_rfl) (fun _ _ _ h => h) (Or.inl ⟨?gmf26, ?ymf26⟩) (by assumption) ?rmf26
          case gmf26 => rfl
          case ymf26 => (intro w hSw; (try dsimp only at hSw); go_simp; all_goals (with_reducible rfl))
          try simp only [Act.put, List.setIfInBounds_toArray, List.set_cons_zero, List.set_cons_succ]
          refine' wpAnyH_take (i := 27) (oi := { dst := some 84, op := Op.move (Operand.tmp 5), type := 46, pos := "law.go:90", after := #[{ on := 26, ground := Ground.guard }], guard := some (26, true) }) (v := undef) rfl (by kernel_rfl) (by kernel_rfl) (by kernel_rfl) (fun _ _ _ h => h) (Or.inr ⟨?gmf27, rfl⟩) (by assumption) ?rmf27
          case gmf27 => rfl
          try simp only [Act.put, List.setIfInBounds_toArray, List.set_cons_zero, List.set_cons_succ]
          refine' wpAnyH_take (i := 28) (oi := { dst := some 85, op := Op.move (Operand.tmp 10), type := 3, pos := "law.go:90", after := #[{ on := 26, ground := Ground.guard }], guard := some (26, true) }) (v := undef) rfl (by kernel_rfl) (by kernel_rfl) (by kernel_rfl) (fun _ _ _ h => h) (Or.inr ⟨?gmf28, rfl⟩) (by assumption) ?rmf28
          case gmf28 => rfl
          try simp only [Act.put, List.setIfInBounds_toArray, List.set_cons_zero, List.set_cons_succ]
          refine' wpAnyH_take (i := 29) (oi := { dst := some 86, op := Op.indexAddr 46 (Operand.tmp 84) (Operand.tmp 85), type := 0, pos := "law.go:90", after := #[{ on := 27, ground := Ground.data }, { on := 28, ground := Ground.data }, { on := 26, ground := Ground.guard }], guard := some (26, true) }) (v := undef) rfl (by kernel_rfl) (by kernel_rfl) (by kernel_rfl) (fun _ _ _ h => h) (Or.inr ⟨?gmf29, rfl⟩) (by assumption) ?rmf29
          case gmf29 => rfl
          try simp only [Act.put, List.setIfInBounds_toArray, List.set_cons_zero, List.set_cons_succ]
          refine' wpAnyH_take (i := 30) (oi := { dst := some 87, op := Op.fieldAddr 56 (Operand.tmp 86) 1, type := 0, pos := "law.go:90", after := #[{ on := 29, ground := Ground.data }, { on := 26, ground := Ground.guard }], guard := some (26, true) }) (v := undef) rfl (by kernel_rfl) (by kernel_rfl) (by kernel_rfl) (fun _ _ _ h => h) (Or.inr ⟨?gmf30, rfl⟩) (by assumption) ?rmf30
          case gmf30 => rfl
          try simp only [Act.put, List.setIfInBounds_toArray, List.set_cons_zero, List.set_cons_succ]
          refine' wpAnyH_take (i := 31) (oi := { dst := some 88, op := Op.load 3 (Operand.tmp 87), type := 3, pos := "law.go:90", after := #[{ on := 30, ground := Ground.data }, { on := 26, ground := Ground.guard }], guard := some (26, true) }) (v := undef) rfl (by kernel_rfl) (by kernel_rfl) (by kernel_rfl) (fun _ _ _ h => h) (Or.inr ⟨?gmf31, rfl⟩) (by assumption) ?rmf31
          case gmf31 => rfl
          try simp only [Act.put, List.setIfInBounds_toArray, List.set_cons_zero, List.set_cons_succ]
          refine' wpAnyH_take (i := 32) (oi := { dst := some 89, op := Op.move (Operand.tmp 5), type := 46, pos := "law.go:90", after := #[{ on := 26, ground := Ground.guard }], guard := some (26, true) }) (v := undef) rfl (by kernel_rfl) (by kernel_rfl) (by kernel_rfl) (fun _ _ _ h => h) (Or.inr ⟨?gmf32, rfl⟩) (by assumption) ?rmf32
          case gmf32 => rfl
          try simp only [Act.put, List.setIfInBounds_toArray, List.set_cons_zero, List.set_cons_succ]
          refine' wpAnyH_take (i := 33) (oi := { dst := some 90, op := Op.move (Operand.tmp 10), type := 3, pos := "law.go:90", after := #[{ on := 26, ground := Ground.guard }], guard := some (26, true) }) (v := undef) rfl (by kernel_rfl) (by kernel_rfl) (by kernel_rfl) (fun _ _ _ h => h) (Or.inr ⟨?gmf33, rfl⟩) (by assumption) ?rmf33
          case gmf33 => rfl
          try simp only [Act.put, List.setIfInBounds_toArray, List.set_cons_zero, List.set_cons_succ]
          refine' wpAnyH_take (i := 34) (oi := { dst := some 91, op := Op.binOp BinOp.sub 3 (Operand.tmp 90) (Operand.const (Value.int IntKind.i64 1)) 3, type := 3, pos := "law.go:90", after := #[{ on := 33, ground := Ground.data }, { on := 26, ground := Ground.guard }], guard := some (26, true) }) (v := undef) rfl (by kernel_rfl) (by kernel_rfl) (by kernel_rfl) (fun _ _ _ h => h) (Or.inr ⟨?gmf34, rfl⟩) (by assumption) ?rmf34
          case gmf34 => rfl
          try simp only [Act.put, List.setIfInBounds_toArray, List.set_cons_zero, List.set_cons_succ]
          refine' wpAnyH_take (i := 35) (oi := { dst := some 92, op := Op.indexAddr 46 (Operand.tmp 89) (Operand.tmp 91), type := 0, pos := "law.go:90", after := #[{ on := 32, ground := Ground.data }, { on := 34, ground := Ground.data }, { on := 26, ground := Ground.guard }], guard := some (26, true) }) (v := undef) rfl (by kernel_rfl) (by kernel_rfl) (by kernel_rfl) (fun _ _ _ h => h) (Or.inr ⟨?gmf35, rfl⟩) (by assumption) ?rmf35
          case gmf35 => rfl
          try simp only [Act.put, List.setIfInBounds_toArray, List.set_cons_zero, List.set_cons_succ]
          refine' wpAnyH_take (i := 36) (oi := { dst := some 93, op := Op.fieldAddr 56 (Operand.tmp 92) 1, type := 0, pos := "law.go:90", after := #[{ on := 35, ground := Ground.data }, { on := 26, ground := Ground.guard }], guard := some (26, true) }) (v := undef) rfl (by kernel_rfl) (by kernel_rfl) (by kernel_rfl) (fun _ _ _ h => h) (Or.inr ⟨?gmf36, rfl⟩) (by assumption) ?rmf36
          case gmf36 => rfl
          try simp only [Act.put, List.setIfInBounds_toArray, List.set_cons_zero, List.set_cons_succ]
          refine' wpAnyH_take (i := 37) (oi := { dst := some 94, op := Op.load 3 (Operand.tmp 93), type := 3, pos := "law.go:90", after := #[{ on := 36, ground := Ground.data }, { on := 26, ground := Ground.guard }], guard := some (26, true) }) (v := undef) rfl (by kernel_rfl) (by kernel_rfl) (by kernel_rfl) (fun _ _ _ h => h) (Or.inr ⟨?gmf37, rfl⟩) (by assumption) ?rmf37
          case gmf37 => rfl
          try simp only [Act.put, List.setIfInBounds_toArray, List.set_cons_zero, List.set_cons_succ]
          refine' wpAnyH_take (i := 38) (oi := { dst := some 95, op := Op.binOp BinOp.leq 3 (Operand.tmp 88) (Operand.tmp 94) 3, type := 4, pos := "law.go:90", after := #[{ on := 31, ground := Ground.data }, { on := 37, ground := Ground.data }, { on := 26, ground := Ground.guard }], guard := some (26, true) }) (v := undef) rfl (by kernel_rfl) (by kernel_rfl) (by kernel_rfl) (fun _ _ _ h => h) (Or.inr ⟨?gmf38, rfl⟩) (by assumption) ?rmf38
          case gmf38 => rfl
          try simp only [Act.put, List.setIfInBounds_toArray, List.set_cons_zero, List.set_cons_succ]
          refine' wpAnyH_take (i := 39) (oi := { dst := some 96, op := Op.move (Operand.tmp 95), type := 4, pos := "law.go:90", after := #[{ on := 38, ground := Ground.data }, { on := 26, ground := Ground.chain }, { on := 26, ground := Ground.guard }], guard := some (26, true) }) (v := undef) rfl (by kernel_rfl) (by kernel_rfl) (by kernel_rfl) (fun _ _ _ h => h) (Or.inr ⟨?gmf39, rfl⟩) (by assumption) ?rmf39
          case gmf39 => rfl
          try simp only [Act.put, List.setIfInBounds_toArray, List.set_cons_zero, List.set_cons_succ]
          refine' wpAnyH_take (i := 40) (oi := { dst := some 97, op := Op.move (Operand.tmp 5), type := 46, pos := "law.go:90", after := #[{ on := 39, ground := Ground.guard }], guard := some (39, false) }) (v := undef) rfl (by kernel_rfl) (by kernel_rfl) (by kernel_rfl) (fun _ _ _ h => h) (Or.inr ⟨?gmf40, rfl⟩) (by assumption) ?rmf40
          case gmf40 => rfl
          try simp only [Act.put, List.setIfInBounds_toArray, List.set_cons_zero, List.set_cons_succ]
          refine' wpAnyH_take (i := 41) (oi := { dst := some 98, op := Op.move (Operand.tmp 10), type := 3, pos := "law.go:90", after := #[{ on := 39, ground := Ground.guard }], guard := some (39, false) }) (v := undef) rfl (by kernel_rfl) (by kernel_rfl) (by kernel_rfl) (fun _ _ _ h => h) (Or.inr ⟨?gmf41, rfl⟩) (by assumption) ?rmf41
          case gmf41 => rfl
          try simp only [Act.put, List.setIfInBounds_toArray, List.set_cons_zero, List.set_cons_succ]
          refine' wpAnyH_take (i := 42) (oi := { dst := some 99, op := Op.indexAddr 46 (Operand.tmp 97) (Operand.tmp 98), type := 0, pos := "law.go:90", after := #[{ on := 40, ground := Ground.data }, { on := 41, ground := Ground.data }, { on := 39, ground := Ground.guard }], guard := some (39, false) }) (v := undef) rfl (by kernel_rfl) (by kernel_rfl) (by kernel_rfl) (fun _ _ _ h => h) (Or.inr ⟨?gmf42, rfl⟩) (by assumption) ?rmf42
          case gmf42 => rfl
          try simp only [Act.put, List.setIfInBounds_toArray, List.set_cons_zero, List.set_cons_succ]
          refine' wpAnyH_take (i := 43) (oi := { dst := some 100, op := Op.fieldAddr 56 (Operand.tmp 99) 0, type := 0, pos := "law.go:90", after := #[{ on := 42, ground := Ground.data }, { on := 39, ground := Ground.guard }], guard := some (39, false) }) (v := undef) rfl (by kernel_rfl) (by kernel_rfl) (by kernel_rfl) (fun _ _ _ h => h) (Or.inr ⟨?gmf43, rfl⟩) (by assumption) ?rmf43
          case gmf43 => rfl
          try simp only [Act.put, List.setIfInBounds_toArray, List.set_cons_zero, List.set_cons_succ]
          refine' wpAnyH_take (i := 44) (oi := { dst := some 101, op := Op.load 3 (Operand.tmp 100), type := 3, pos := "law.go:90", after := #[{ on := 43, ground := Ground.data }, { on := 39, ground := Ground.guard }], guard := some (39, false) }) (v := undef) rfl (by kernel_rfl) (by kernel_rfl) (by kernel_rfl) (fun _ _ _ h => h) (Or.inr ⟨?gmf44, rfl⟩) (by assumption) ?rmf44
          case gmf44 => rfl
          try simp only [Act.put, List.setIfInBounds_toArray, List.set_cons_zero, List.set_cons_succ]
          refine' wpAnyH_take (i := 45) (oi := { dst := some 102, op := Op.move (Operand.tmp 5), type := 46, pos := "law.go:90", after := #[{ on := 39, ground := Ground.guard }], guard := some (39, false) }) (v := undef) rfl (by kernel_rfl) (by kernel_rfl) (by kernel_rfl) (fun _ _ _ h => h) (Or.inr ⟨?gmf45, rfl⟩) (by assumption) ?rmf45
          case gmf45 => rfl
          try simp only [Act.put, List.setIfInBounds_toArray, List.set_cons_zero, List.set_cons_succ]
          refine' wpAnyH_take (i := 46) (oi := { dst := some 103, op := Op.move (Operand.tmp 10), type := 3, pos := "law.go:90", after := #[{ on := 39, ground := Ground.guard }], guard := some (39, false) }) (v := undef) rfl (by kernel_rfl) (by kernel_rfl) (by kernel_rfl) (fun _ _ _ h => h) (Or.inr ⟨?gmf46, rfl⟩) (by assumption) ?rmf46
          case gmf46 => rfl
          try simp only [Act.put, List.setIfInBounds_toArray, List.set_cons_zero, List.set_cons_succ]
          refine' wpAnyH_take (i := 47) (oi := { dst := some 104, op := Op.binOp BinOp.sub 3 (Operand.tmp 103) (Operand.const (Value.int IntKind.i64 1)) 3, type := 3, pos := "law.go:90", after := #[{ on := 46, ground := Ground.data }, { on := 39, ground := Ground.guard }], guard := some (39, false) }) (v := undef) rfl (by kernel_rfl) (by kernel_rfl) (by kernel_rfl) (fun _ _ _ h => h) (Or.inr ⟨?gmf47, rfl⟩) (by assumption) ?rmf47
          case gmf47 => rfl
          try simp only [Act.put, List.setIfInBounds_toArray, List.set_cons_zero, List.set_cons_succ]
          refine' wpAnyH_take (i := 48) (oi := { dst := some 105, op := Op.indexAddr 46 (Operand.tmp 102) (Operand.tmp 104), type := 0, pos := "law.go:90", after := #[{ on := 45, ground := Ground.data }, { on := 47, ground := Ground.data }, { on := 39, ground := Ground.guard }], guard := some (39, false) }) (v := undef) rfl (by kernel_rfl) (by kernel_rfl) (by kernel_rfl) (fun _ _ _ h => h) (Or.inr ⟨?gmf48, rfl⟩) (by assumption) ?rmf48
          case gmf48 => rfl
          try simp only [Act.put, List.setIfInBounds_toArray, List.set_cons_zero, List.set_cons_succ]
          refine' wpAnyH_take (i := 49) (oi := { dst := some 106, op := Op.fieldAddr 56 (Operand.tmp 105) 0, type := 0, pos := "law.go:90", after := #[{ on := 48, ground := Ground.data }, { on := 39, ground := Ground.guard }], guard := some (39, false) }) (v := undef) rfl (by kernel_rfl) (by kernel_rfl) (by kernel_rfl) (fun _ _ _ h => h) (Or.inr ⟨?gmf49, rfl⟩) (by assumption) ?rmf49
          case gmf49 => rfl
          try simp only [Act.put, List.setIfInBounds_toArray, List.set_cons_zero, List.set_cons_succ]
          refine' wpAnyH_take (i := 50) (oi := { dst := some 107, op := Op.load 3 (Operand.tmp 106), type := 3, pos := "law.go:90", after := #[{ on := 49, ground := Ground.data }, { on := 39, ground := Ground.guard }], guard := some (39, false) }) (v := undef) rfl (by kernel_rfl) (by kernel_rfl) (by kernel_rfl) (fun _ _ _ h => h) (Or.inr ⟨?gmf50, rfl⟩) (by assumption) ?rmf50
          case gmf50 => rfl
          try simp only [Act.put, List.setIfInBounds_toArray, List.set_cons_zero, List.set_cons_succ]
          refine' wpAnyH_take (i := 51) (oi := { dst := some 108, op := Op.binOp BinOp.lss 3 (Operand.tmp 101) (Operand.tmp 107) 3, type := 4, pos := "law.go:90", after := #[{ on := 44, ground := Ground.data }, { on := 50, ground := Ground.data }, { on := 39, ground := Ground.guard }], guard := some (39, false) }) (v := undef) rfl (by kernel_rfl) (by kernel_rfl) (by kernel_rfl) (fun _ _ _ h => h) (Or.inr ⟨?gmf51, rfl⟩) (by assumption) ?rmf51
          case gmf51 => rfl
          try simp only [Act.put, List.setIfInBounds_toArray, List.set_cons_zero, List.set_cons_succ]
          refine' wpAnyH_take (i := 52) (oi := { dst := some 109, op := Op.pick (Operand.tmp 96) (Operand.const (Value.bool true)) (Operand.tmp 108), type := 4, pos := "law.go:90", after := #[{ on := 39, ground := Ground.data }, { on := 51, ground := Ground.data }, { on := 26, ground := Ground.guard }], guard := some (26, true) }) (v := undef) rfl (by kernel_rfl) (by kernel_rfl) (by kernel_rfl) (fun _ _ _ h => h) (Or.inr ⟨?gmf52, rfl⟩) (by assumption) ?rmf52
          case gmf52 => rfl
          try simp only [Act.put, List.setIfInBounds_toArray, List.set_cons_zero, List.set_cons_succ]
          refine' wpAnyH_take (i := 53) (oi := { dst := some 110, op := Op.pick (Operand.tmp 83) (Operand.tmp 109) (Operand.const (Value.bool false)), type := 4, pos := "law.go:90", after := #[{ on := 26, ground := Ground.data }, { on := 52, ground := Ground.data }, { on := 23, ground := Ground.guard }], guard := some (23, false) }) (v := ?vmf53) rfl (by kernel_rfl) (by kernel_rfl) (by kernel_rfl) (fun _ _ _ h => h) (Or.inl ⟨?gmf53, ?ymf53⟩) (by assumption) ?rmf53
          case gmf53 => rfl
          case ymf53 => (intro w hSw; (try dsimp only at hSw); go_simp; all_goals (with_reducible rfl))
          try simp only [Act.put, List.setIfInBounds_toArray, List.set_cons_zero, List.set_cons_succ]
          refine' wpAnyH_take (i := 54) (oi := { dst := some 111, op := Op.pick (Operand.tmp 80) (Operand.const (Value.bool true)) (Operand.tmp 110), type := 4, pos := "law.go:90", after := #[{ on := 23, ground := Ground.data }, { on := 53, ground := Ground.data }], guard := none }) (v := ?vmf54) rfl (by kernel_rfl) (by kernel_rfl) (by kernel_rfl) (fun _ _ _ h => h) (Or.inl ⟨?gmf54, ?ymf54⟩) (by assumption) ?rmf54
          case gmf54 => rfl
          case ymf54 => (intro w hSw; (try dsimp only at hSw); go_simp; all_goals (with_reducible rfl))
          try simp only [Act.put, List.setIfInBounds_toArray, List.set_cons_zero, List.set_cons_succ]
          refine wpAnyH_done (by kernel_rfl) ?_ _
          go_wp2_with fail
          go_round
          case rel => exact ⟨0 + 1, by omega, by go_num, HC.out.below hHeld.2.2, HB.out.trans (hHeld.2.2.mono HB.out.size)⟩
          case measure => simp [intOf]
        · obtain ⟨j, rfl⟩ : ∃ j, i = j + 1 := ⟨i - 1, by omega⟩
          obtain ⟨⟨Kp, Dp⟩, hP⟩ : ∃ x, xs[j]? = some x := ⟨xs[j]'(by rw [HE.out]; omega), by simp⟩
          obtain ⟨r1, r2⟩ := R.out j _ _ hP hK
          obtain ⟨p0, p1⟩ := hc j _ hP
          simp only at r1 r2 p0 p1
          have e' : ((j + 1 : Nat) : Int) = (j : Int) + 1 := by omega
          rw [e']
          clear e'
          have x1 : (0 : Int) ≤ (j : Int) + 1 := by omega
          have x2 : (j : Int) + 1 < 8 := by omega
          have x3 : (j : Int) < 8 := by omega
          have x4 : (0 : Int) < (j : Int) + 1 := by omega
          have x5 : IntKind.i64.wrap (j : Int) = (j : Int) := IntWalk.i64_in _ ⟨by omega, by omega⟩
          have g1 : decide (D ≤ Dp) = false := by simp; omega
          have g2 : decide (K < Kp) = false := by simp; omega
          clear hc hB hK hP
          go_wp2_with fail
          refine wp_region_held_drew (S := fun w' => w'.cell? ⟨g, (j + 1) * 2, none⟩ = some (.int .i64 K) ∧ w'.cell? ⟨g, (j + 1) * 2 + 1, none⟩ = some (.int .i64 D) ∧ w'.cell? ⟨g, j * 2, none⟩ = some (.int .i64 Kp) ∧ w'.cell? ⟨g, j * 2 + 1, none⟩ = some (.int .i64 Dp) ∧ Below wr.heap.size wr w') (by kernel_rfl) ⟨c0, c1, p0, p1, (Below.refl _ _).drew⟩ (fun hHeld => ?_)
          refine' wpAnyH_take (i := 0) (oi := { dst := some 57, op := Op.move (Operand.tmp 5), type := 46, pos := "law.go:90", after := #[], guard := none }) (v := ?vnf0) rfl (by kernel_rfl) (by kernel_rfl) (by kernel_rfl) (fun _ _ _ h => h) (Or.inl ⟨?gnf0, ?ynf0⟩) (by assumption) ?rnf0
          case gnf0 => rfl
          case ynf0 => (intro w hSw; (try dsimp only at hSw); go_simp; all_goals (with_reducible rfl))
          try simp only [Act.put, List.setIfInBounds_toArray, List.set_cons_zero, List.set_cons_succ]
          refine' wpAnyH_take (i := 1) (oi := { dst := some 58, op := Op.move (Operand.tmp 10), type := 3, pos := "law.go:90", after := #[], guard := none }) (v := ?vnf1) rfl (by kernel_rfl) (by kernel_rfl) (by kernel_rfl) (fun _ _ _ h => h) (Or.inl ⟨?gnf1, ?ynf1⟩) (by assumption) ?rnf1
          case gnf1 => rfl
          case ynf1 => (intro w hSw; (try dsimp only at hSw); go_simp; all_goals (with_reducible rfl))
          try simp only [Act.put, List.setIfInBounds_toArray, List.set_cons_zero, List.set_cons_succ]
          refine' wpAnyH_take (i := 2) (oi := { dst := some 59, op := Op.indexAddr 46 (Operand.tmp 57) (Operand.tmp 58), type := 0, pos := "law.go:90", after := #[{ on := 0, ground := Ground.data }, { on := 1, ground := Ground.data }], guard := none }) (v := ?vnf2) rfl (by kernel_rfl) (by kernel_rfl) (by kernel_rfl) (fun _ _ _ h => h) (Or.inl ⟨?gnf2, ?ynf2⟩) (by assumption) ?rnf2
          case gnf2 => rfl
          case ynf2 => (intro w hSw; (try dsimp only at hSw); go_simp; all_goals (with_reducible rfl))
          try simp only [Act.put, List.setIfInBounds_toArray, List.set_cons_zero, List.set_cons_succ]
          refine' wpAnyH_take (i := 3) (oi := { dst := some 60, op := Op.fieldAddr 56 (Operand.tmp 59) 1, type := 0, pos := "law.go:90", after := #[{ on := 2, ground := Ground.data }], guard := none }) (v := ?vnf3) rfl (by kernel_rfl) (by kernel_rfl) (by kernel_rfl) (fun _ _ _ h => h) (Or.inl ⟨?gnf3, ?ynf3⟩) (by assumption) ?rnf3
          case gnf3 => rfl
          case ynf3 => (intro w hSw; (try dsimp only at hSw); go_simp; all_goals (with_reducible rfl))
          try simp only [Act.put, List.setIfInBounds_toArray, List.set_cons_zero, List.set_cons_succ]
          refine' wpAnyH_take (i := 4) (oi := { dst := some 61, op := Op.load 3 (Operand.tmp 60), type := 3, pos := "law.go:90", after := #[{ on := 3, ground := Ground.data }], guard := none }) (v := ?vnf4) rfl (by kernel_rfl) (by kernel_rfl) (by kernel_rfl) (fun _ _ _ h => h) (Or.inl ⟨?gnf4, ?ynf4⟩) (by assumption) ?rnf4
          case gnf4 => rfl
          case ynf4 => (intro w hSw; (try dsimp only at hSw); go_simp; all_goals (with_reducible rfl))
          try simp only [Act.put, List.setIfInBounds_toArray, List.set_cons_zero, List.set_cons_succ]
          refine' wpAnyH_take (i := 5) (oi := { dst := some 62, op := Op.move (Operand.tmp 1), type := 4, pos := "law.go:90", after := #[], guard := none }) (v := ?vnf5) rfl (by kernel_rfl) (by kernel_rfl) (by kernel_rfl) (fun _ _ _ h => h) (Or.inl ⟨?gnf5, ?ynf5⟩) (by assumption) ?rnf5
          case gnf5 => rfl
          case ynf5 => (intro w hSw; (try dsimp only at hSw); go_simp; all_goals (with_reducible rfl))
          try simp only [Act.put, List.setIfInBounds_toArray, List.set_cons_zero, List.set_cons_succ]
          refine' wpAnyH_take (i := 7) (oi := { dst := some 64, op := Op.move (Operand.tmp 5), type := 46, pos := "law.go:90", after := #[], guard := none }) (v := ?vnf7) rfl (by kernel_rfl) (by kernel_rfl) (by kernel_rfl) (fun _ _ _ h => h) (Or.inl ⟨?gnf7, ?ynf7⟩) (by assumption) ?rnf7
          case gnf7 => rfl
          case ynf7 => (intro w hSw; (try dsimp only at hSw); go_simp; all_goals (with_reducible rfl))
          try simp only [Act.put, List.setIfInBounds_toArray, List.set_cons_zero, List.set_cons_succ]
          refine' wpAnyH_take (i := 8) (oi := { dst := some 65, op := Op.move (Operand.tmp 10), type := 3, pos := "law.go:90", after := #[], guard := none }) (v := ?vnf8) rfl (by kernel_rfl) (by kernel_rfl) (by kernel_rfl) (fun _ _ _ h => h) (Or.inl ⟨?gnf8, ?ynf8⟩) (by assumption) ?rnf8
          case gnf8 => rfl
          case ynf8 => (intro w hSw; (try dsimp only at hSw); go_simp; all_goals (with_reducible rfl))
          try simp only [Act.put, List.setIfInBounds_toArray, List.set_cons_zero, List.set_cons_succ]
          refine' wpAnyH_take (i := 9) (oi := { dst := some 66, op := Op.indexAddr 46 (Operand.tmp 64) (Operand.tmp 65), type := 0, pos := "law.go:90", after := #[{ on := 7, ground := Ground.data }, { on := 8, ground := Ground.data }], guard := none }) (v := ?vnf9) rfl (by kernel_rfl) (by kernel_rfl) (by kernel_rfl) (fun _ _ _ h => h) (Or.inl ⟨?gnf9, ?ynf9⟩) (by assumption) ?rnf9
          case gnf9 => rfl
          case ynf9 => (intro w hSw; (try dsimp only at hSw); go_simp; all_goals (with_reducible rfl))
          try simp only [Act.put, List.setIfInBounds_toArray, List.set_cons_zero, List.set_cons_succ]
          refine' wpAnyH_take (i := 10) (oi := { dst := some 67, op := Op.fieldAddr 56 (Operand.tmp 66) 0, type := 0, pos := "law.go:90", after := #[{ on := 9, ground := Ground.data }], guard := none }) (v := ?vnf10) rfl (by kernel_rfl) (by kernel_rfl) (by kernel_rfl) (fun _ _ _ h => h) (Or.inl ⟨?gnf10, ?ynf10⟩) (by assumption) ?rnf10
          case gnf10 => rfl
          case ynf10 => (intro w hSw; (try dsimp only at hSw); go_simp; all_goals (with_reducible rfl))
          try simp only [Act.put, List.setIfInBounds_toArray, List.set_cons_zero, List.set_cons_succ]
          refine' wpAnyH_take (i := 11) (oi := { dst := some 68, op := Op.load 3 (Operand.tmp 67), type := 3, pos := "law.go:90", after := #[{ on := 10, ground := Ground.data }], guard := none }) (v := ?vnf11) rfl (by kernel_rfl) (by kernel_rfl) (by kernel_rfl) (fun _ _ _ h => h) (Or.inl ⟨?gnf11, ?ynf11⟩) (by assumption) ?rnf11
          case gnf11 => rfl
          case ynf11 => (intro w hSw; (try dsimp only at hSw); go_simp; all_goals (with_reducible rfl))
          try simp only [Act.put, List.setIfInBounds_toArray, List.set_cons_zero, List.set_cons_succ]
          refine wpAnyH_ready (rs := [6]) (by kernel_rfl) (by simp) ?_
          refine' AllReadyH.cons (o := { dst := some 63, op := Op.call { callee := Callee.value (Operand.func 48), args := #[Operand.tmp 61, Operand.tmp 62], argTypes := #[3, 4] }, type := 3, pos := "law.go:90", after := #[{ on := 4, ground := Ground.data }, { on := 5, ground := Ground.data }], guard := none }) rfl (fun KK hKK => ?snf6) AllReadyH.nil
          go_simp
          refine (fKind_any _ K false _ hk.out).mono ?_; rintro e w4 ⟨rfl, hb⟩
          refine' hKK.out _ _ ?hnf6 (fun hHeld => ?rnf6)
          case hnf6 => exact keepF4 hHeld hb (Nat.le_refl _)
          clear hKK KK
          try simp only [Act.put, List.setIfInBounds_toArray, List.set_cons_zero, List.set_cons_succ]
          refine' wpAnyH_take (i := 12) (oi := { dst := some 69, op := Op.binOp BinOp.neq 3 (Operand.tmp 63) (Operand.tmp 68) 3, type := 4, pos := "law.go:90", after := #[{ on := 6, ground := Ground.data }, { on := 11, ground := Ground.data }], guard := none }) (v := ?vnf12) rfl (by kernel_rfl) (by kernel_rfl) (by kernel_rfl) (fun _ _ _ h => h) (Or.inl ⟨?gnf12, ?ynf12⟩) (by assumption) ?rnf12
          case gnf12 => rfl
          case ynf12 => (intro w hSw; (try dsimp only at hSw); go_simp; all_goals (with_reducible rfl))
          try simp only [Act.put, List.setIfInBounds_toArray, List.set_cons_zero, List.set_cons_succ]
          refine' wpAnyH_take (i := 13) (oi := { dst := some 70, op := Op.move (Operand.tmp 69), type := 4, pos := "law.go:90", after := #[{ on := 12, ground := Ground.data }, { on := 6, ground := Ground.chain }], guard := none }) (v := ?vnf13) rfl (by kernel_rfl) (by kernel_rfl) (by kernel_rfl) (fun _ _ _ h => h) (Or.inl ⟨?gnf13, ?ynf13⟩) (by assumption) ?rnf13
          case gnf13 => rfl
          case ynf13 => (intro w hSw; (try dsimp only at hSw); go_simp; all_goals (with_reducible rfl))
          try simp only [Act.put, List.setIfInBounds_toArray, List.set_cons_zero, List.set_cons_succ]
          refine' wpAnyH_take (i := 14) (oi := { dst := some 71, op := Op.move (Operand.tmp 5), type := 46, pos := "law.go:90", after := #[{ on := 13, ground := Ground.guard }], guard := some (13, false) }) (v := ?vnf14) rfl (by kernel_rfl) (by kernel_rfl) (by kernel_rfl) (fun _ _ _ h => h) (Or.inl ⟨?gnf14, ?ynf14⟩) (by assumption) ?rnf14
          case gnf14 => rfl
          case ynf14 => (intro w hSw; (try dsimp only at hSw); go_simp; all_goals (with_reducible rfl))
          try simp only [Act.put, List.setIfInBounds_toArray, List.set_cons_zero, List.set_cons_succ]
          refine' wpAnyH_take (i := 15) (oi := { dst := some 72, op := Op.move (Operand.tmp 10), type := 3, pos := "law.go:90", after := #[{ on := 13, ground := Ground.guard }], guard := some (13, false) }) (v := ?vnf15) rfl (by kernel_rfl) (by kernel_rfl) (by kernel_rfl) (fun _ _ _ h => h) (Or.inl ⟨?gnf15, ?ynf15⟩) (by assumption) ?rnf15
          case gnf15 => rfl
          case ynf15 => (intro w hSw; (try dsimp only at hSw); go_simp; all_goals (with_reducible rfl))
          try simp only [Act.put, List.setIfInBounds_toArray, List.set_cons_zero, List.set_cons_succ]
          refine' wpAnyH_take (i := 16) (oi := { dst := some 73, op := Op.indexAddr 46 (Operand.tmp 71) (Operand.tmp 72), type := 0, pos := "law.go:90", after := #[{ on := 14, ground := Ground.data }, { on := 15, ground := Ground.data }, { on := 13, ground := Ground.guard }], guard := some (13, false) }) (v := ?vnf16) rfl (by kernel_rfl) (by kernel_rfl) (by kernel_rfl) (fun _ _ _ h => h) (Or.inl ⟨?gnf16, ?ynf16⟩) (by assumption) ?rnf16
          case gnf16 => rfl
          case ynf16 => (intro w hSw; (try dsimp only at hSw); go_simp; all_goals (with_reducible rfl))
          try simp only [Act.put, List.setIfInBounds_toArray, List.set_cons_zero, List.set_cons_succ]
          refine' wpAnyH_take (i := 17) (oi := { dst := some 74, op := Op.fieldAddr 56 (Operand.tmp 73) 1, type := 0, pos := "law.go:90", after := #[{ on := 16, ground := Ground.data }, { on := 13, ground := Ground.guard }], guard := some (13, false) }) (v := ?vnf17) rfl (by kernel_rfl) (by kernel_rfl) (by kernel_rfl) (fun _ _ _ h => h) (Or.inl ⟨?gnf17, ?ynf17⟩) (by assumption) ?rnf17
          case gnf17 => rfl
          case ynf17 => (intro w hSw; (try dsimp only at hSw); go_simp; all_goals (with_reducible rfl))
          try simp only [Act.put, List.setIfInBounds_toArray, List.set_cons_zero, List.set_cons_succ]
          refine' wpAnyH_take (i := 18) (oi := { dst := some 75, op := Op.load 3 (Operand.tmp 74), type := 3, pos := "law.go:90", after := #[{ on := 17, ground := Ground.data }, { on := 13, ground := Ground.guard }], guard := some (13, false) }) (v := ?vnf18) rfl (by kernel_rfl) (by kernel_rfl) (by kernel_rfl) (fun _ _ _ h => h) (Or.inl ⟨?gnf18, ?ynf18⟩) (by assumption) ?rnf18
          case gnf18 => rfl
          case ynf18 => (intro w hSw; (try dsimp only at hSw); go_simp; all_goals (with_reducible rfl))
          try simp only [Act.put, List.setIfInBounds_toArray, List.set_cons_zero, List.set_cons_succ]
          refine' wpAnyH_take (i := 19) (oi := { dst := some 76, op := Op.move (Operand.tmp 1), type := 4, pos := "law.go:90", after := #[{ on := 13, ground := Ground.guard }], guard := some (13, false) }) (v := ?vnf19) rfl (by kernel_rfl) (by kernel_rfl) (by kernel_rfl) (fun _ _ _ h => h) (Or.inl ⟨?gnf19, ?ynf19⟩) (by assumption) ?rnf19
          case gnf19 => rfl
          case ynf19 => (intro w hSw; (try dsimp only at hSw); go_simp; all_goals (with_reducible rfl))
          try simp only [Act.put, List.setIfInBounds_toArray, List.set_cons_zero, List.set_cons_succ]
          refine wpAnyH_ready (rs := [20]) (by kernel_rfl) (by simp) ?_
          refine' AllReadyH.cons (o := { dst := some 77, op := Op.call { callee := Callee.value (Operand.func 50), args := #[Operand.tmp 75, Operand.tmp 76], argTypes := #[3, 4] }, type := 4, pos := "law.go:90", after := #[{ on := 18, ground := Ground.data }, { on := 19, ground := Ground.data }, { on := 13, ground := Ground.chain }, { on := 13, ground := Ground.guard }], guard := some (13, false) }) rfl (fun KK hKK => ?snf20) AllReadyH.nil
          go_simp
          refine (fRest_yes _ false _ hI hr.out).mono ?_; rintro e w5 ⟨rfl, hb⟩
          refine' hKK.out _ _ ?hnf20 (fun hHeld => ?rnf20)
          case hnf20 => exact keepF4 hHeld hb (Nat.le_refl _)
          clear hKK KK
          try simp only [Act.put, List.setIfInBounds_toArray, List.set_cons_zero, List.set_cons_succ]
          refine' wpAnyH_take (i := 21) (oi := { dst := some 78, op := Op.unOp UnOp.not 4 (Operand.tmp 77), type := 4, pos := "law.go:90", after := #[{ on := 20, ground := Ground.data }, { on := 13, ground := Ground.guard }], guard := some (13, false) }) (v := ?vnf21) rfl (by kernel_rfl) (by kernel_rfl) (by kernel_rfl) (fun _ _ _ h => h) (Or.inl ⟨?gnf21, ?ynf21⟩) (by assumption) ?rnf21
          case gnf21 => rfl
          case ynf21 => (intro w hSw; (try dsimp only at hSw); go_simp; all_goals (with_reducible rfl))
          try simp only [Act.put, List.setIfInBounds_toArray, List.set_cons_zero, List.set_cons_succ]
          refine' wpAnyH_take (i := 22) (oi := { dst := some 79, op := Op.pick (Operand.tmp 70) (Operand.const (Value.bool true)) (Operand.tmp 78), type := 4, pos := "law.go:90", after := #[{ on := 13, ground := Ground.data }, { on := 21, ground := Ground.data }], guard := none }) (v := ?vnf22) rfl (by kernel_rfl) (by kernel_rfl) (by kernel_rfl) (fun _ _ _ h => h) (Or.inl ⟨?gnf22, ?ynf22⟩) (by assumption) ?rnf22
          case gnf22 => rfl
          case ynf22 => (intro w hSw; (try dsimp only at hSw); go_simp; all_goals (with_reducible rfl))
          try simp only [Act.put, List.setIfInBounds_toArray, List.set_cons_zero, List.set_cons_succ]
          refine' wpAnyH_take (i := 23) (oi := { dst := some 80, op := Op.move (Operand.tmp 79), type := 4, pos := "law.go:90", after := #[{ on := 22, ground := Ground.data }, { on := 20, ground := Ground.chain }], guard := none }) (v := ?vnf23) rfl (by kernel_rfl) (by kernel_rfl) (by kernel_rfl) (fun _ _ _ h => h) (Or.inl ⟨?gnf23, ?ynf23⟩) (by assumption) ?rnf23
          case gnf23 => rfl
          case ynf23 => (intro w hSw; (try dsimp only at hSw); go_simp; all_goals (with_reducible rfl))
          try simp only [Act.put, List.setIfInBounds_toArray, List.set_cons_zero, List.set_cons_succ]
          refine' wpAnyH_take (i := 24) (oi := { dst := some 81, op := Op.move (Operand.tmp 10), type := 3, pos := "law.go:90", after := #[{ on := 23, ground := Ground.guard }], guard := some (23, false) }) (v := ?vnf24) rfl (by kernel_rfl) (by kernel_rfl) (by kernel_rfl) (fun _ _ _ h => h) (Or.inl ⟨?gnf24, ?ynf24⟩) (by assumption) ?rnf24
          case gnf24 => rfl
          case ynf24 => (intro w hSw; (try dsimp only at hSw); go_simp; all_goals (with_reducible rfl))
          try simp only [Act.put, List.setIfInBounds_toArray, List.set_cons_zero, List.set_cons_succ]
          refine' wpAnyH_take (i := 25) (oi := { dst := some 82, op := Op.binOp BinOp.gtr 3 (Operand.tmp 81) (Operand.const (Value.int IntKind.i64 0)) 3, type := 4, pos := "law.go:90", after := #[{ on := 24, ground := Ground.data }, { on := 23, ground := Ground.guard }], guard := some (23, false) }) (v := ?vnf25) rfl (by kernel_rfl) (by kernel_rfl) (by kernel_rfl) (fun _ _ _ h => h) (Or.inl ⟨?gnf25, ?ynf25⟩) (by assumption) ?rnf25
          case gnf25 => rfl
          case ynf25 => (intro w hSw; (try dsimp only at hSw); go_simp; all_goals (with_reducible rfl))
          try simp only [Act.put, List.setIfInBounds_toArray, List.set_cons_zero, List.set_cons_succ]
          refine' wpAnyH_take (i := 26) (oi := { dst := some 83, op := Op.move (Operand.tmp 82), type := 4, pos := "law.go:90", after := #[{ on := 25, ground := Ground.data }, { on := 23, ground := Ground.chain }, { on := 23, ground := Ground.guard }], guard := some (23, false) }) (v := ?vnf26) rfl (by kernel_rfl) (by kernel_rfl) (by kernel_rfl) (fun _ _ _ h => h) (Or.inl ⟨?gnf26, ?ynf26⟩) (by assumption) ?rnf26
          case gnf26 => rfl
          case ynf26 => (intro w hSw; (try dsimp only at hSw); go_simp; all_goals (with_reducible rfl))
          try simp only [Act.put, List.setIfInBounds_toArray, List.set_cons_zero, List.set_cons_succ]
          refine' wpAnyH_take (i := 27) (oi := { dst := some 84, op := Op.move (Operand.tmp 5), type := 46, pos := "law.go:90", after := #[{ on := 26, ground := Ground.guard }], guard := some (26, true) }) (v := ?vnf27) rfl (by kernel_rfl) (by kernel_rfl) (by kernel_rfl) (fun _ _ _ h => h) (Or.inl ⟨?gnf27, ?ynf27⟩) (by assumption) ?rnf27
          case gnf27 => rfl
          case ynf27 => (intro w hSw; (try dsimp only at hSw); go_simp; all_goals (with_reducible rfl))
          try simp only [Act.put, List.setIfInBounds_toArray, List.set_cons_zero, List.set_cons_succ]
          refine' wpAnyH_take (i := 28) (oi := { dst := some 85, op := Op.move (Operand.tmp 10), type := 3, pos := "law.go:90", after := #[{ on := 26, ground := Ground.guard }], guard := some (26, true) }) (v := ?vnf28) rfl (by kernel_rfl) (by kernel_rfl) (by kernel_rfl) (fun _ _ _ h => h) (Or.inl ⟨?gnf28, ?ynf28⟩) (by assumption) ?rnf28
          case gnf28 => rfl
          case ynf28 => (intro w hSw; (try dsimp only at hSw); go_simp; all_goals (with_reducible rfl))
          try simp only [Act.put, List.setIfInBounds_toArray, List.set_cons_zero, List.set_cons_succ]
          refine' wpAnyH_take (i := 29) (oi := { dst := some 86, op := Op.indexAddr 46 (Operand.tmp 84) (Operand.tmp 85), type := 0, pos := "law.go:90", after := #[{ on := 27, ground := Ground.data }, { on := 28, ground := Ground.data }, { on := 26, ground := Ground.guard }], guard := some (26, true) }) (v := ?vnf29) rfl (by kernel_rfl) (by kernel_rfl) (by kernel_rfl) (fun _ _ _ h => h) (Or.inl ⟨?gnf29, ?ynf29⟩) (by assumption) ?rnf29
          case gnf29 => rfl
          case ynf29 => (intro w hSw; (try dsimp only at hSw); go_simp; all_goals (with_reducible rfl))
          try simp only [Act.put, List.setIfInBounds_toArray, List.set_cons_zero, List.set_cons_succ]
          refine' wpAnyH_take (i := 30) (oi := { dst := some 87, op := Op.fieldAddr 56 (Operand.tmp 86) 1, type := 0, pos := "law.go:90", after := #[{ on := 29, ground := Ground.data }, { on := 26, ground := Ground.guard }], guard := some (26, true) }) (v := ?vnf30) rfl (by kernel_rfl) (by kernel_rfl) (by kernel_rfl) (fun _ _ _ h => h) (Or.inl ⟨?gnf30, ?ynf30⟩) (by assumption) ?rnf30
          case gnf30 => rfl
          case ynf30 => (intro w hSw; (try dsimp only at hSw); go_simp; all_goals (with_reducible rfl))
          try simp only [Act.put, List.setIfInBounds_toArray, List.set_cons_zero, List.set_cons_succ]
          refine' wpAnyH_take (i := 31) (oi := { dst := some 88, op := Op.load 3 (Operand.tmp 87), type := 3, pos := "law.go:90", after := #[{ on := 30, ground := Ground.data }, { on := 26, ground := Ground.guard }], guard := some (26, true) }) (v := ?vnf31) rfl (by kernel_rfl) (by kernel_rfl) (by kernel_rfl) (fun _ _ _ h => h) (Or.inl ⟨?gnf31, ?ynf31⟩) (by assumption) ?rnf31
          case gnf31 => rfl
          case ynf31 => (intro w hSw; (try dsimp only at hSw); go_simp; all_goals (with_reducible rfl))
          try simp only [Act.put, List.setIfInBounds_toArray, List.set_cons_zero, List.set_cons_succ]
          refine' wpAnyH_take (i := 32) (oi := { dst := some 89, op := Op.move (Operand.tmp 5), type := 46, pos := "law.go:90", after := #[{ on := 26, ground := Ground.guard }], guard := some (26, true) }) (v := ?vnf32) rfl (by kernel_rfl) (by kernel_rfl) (by kernel_rfl) (fun _ _ _ h => h) (Or.inl ⟨?gnf32, ?ynf32⟩) (by assumption) ?rnf32
          case gnf32 => rfl
          case ynf32 => (intro w hSw; (try dsimp only at hSw); go_simp; all_goals (with_reducible rfl))
          try simp only [Act.put, List.setIfInBounds_toArray, List.set_cons_zero, List.set_cons_succ]
          refine' wpAnyH_take (i := 33) (oi := { dst := some 90, op := Op.move (Operand.tmp 10), type := 3, pos := "law.go:90", after := #[{ on := 26, ground := Ground.guard }], guard := some (26, true) }) (v := ?vnf33) rfl (by kernel_rfl) (by kernel_rfl) (by kernel_rfl) (fun _ _ _ h => h) (Or.inl ⟨?gnf33, ?ynf33⟩) (by assumption) ?rnf33
          case gnf33 => rfl
          case ynf33 => (intro w hSw; (try dsimp only at hSw); go_simp; all_goals (with_reducible rfl))
          try simp only [Act.put, List.setIfInBounds_toArray, List.set_cons_zero, List.set_cons_succ]
          refine' wpAnyH_take (i := 34) (oi := { dst := some 91, op := Op.binOp BinOp.sub 3 (Operand.tmp 90) (Operand.const (Value.int IntKind.i64 1)) 3, type := 3, pos := "law.go:90", after := #[{ on := 33, ground := Ground.data }, { on := 26, ground := Ground.guard }], guard := some (26, true) }) (v := ?vnf34) rfl (by kernel_rfl) (by kernel_rfl) (by kernel_rfl) (fun _ _ _ h => h) (Or.inl ⟨?gnf34, ?ynf34⟩) (by assumption) ?rnf34
          case gnf34 => rfl
          case ynf34 => (intro w hSw; (try dsimp only at hSw); go_simp; all_goals (with_reducible rfl))
          try simp only [Act.put, List.setIfInBounds_toArray, List.set_cons_zero, List.set_cons_succ]
          refine' wpAnyH_take (i := 35) (oi := { dst := some 92, op := Op.indexAddr 46 (Operand.tmp 89) (Operand.tmp 91), type := 0, pos := "law.go:90", after := #[{ on := 32, ground := Ground.data }, { on := 34, ground := Ground.data }, { on := 26, ground := Ground.guard }], guard := some (26, true) }) (v := ?vnf35) rfl (by kernel_rfl) (by kernel_rfl) (by kernel_rfl) (fun _ _ _ h => h) (Or.inl ⟨?gnf35, ?ynf35⟩) (by assumption) ?rnf35
          case gnf35 => rfl
          case ynf35 => (intro w hSw; (try dsimp only at hSw); go_simp; all_goals (with_reducible rfl))
          try simp only [Act.put, List.setIfInBounds_toArray, List.set_cons_zero, List.set_cons_succ]
          refine' wpAnyH_take (i := 36) (oi := { dst := some 93, op := Op.fieldAddr 56 (Operand.tmp 92) 1, type := 0, pos := "law.go:90", after := #[{ on := 35, ground := Ground.data }, { on := 26, ground := Ground.guard }], guard := some (26, true) }) (v := ?vnf36) rfl (by kernel_rfl) (by kernel_rfl) (by kernel_rfl) (fun _ _ _ h => h) (Or.inl ⟨?gnf36, ?ynf36⟩) (by assumption) ?rnf36
          case gnf36 => rfl
          case ynf36 => (intro w hSw; (try dsimp only at hSw); go_simp; all_goals (with_reducible rfl))
          try simp only [Act.put, List.setIfInBounds_toArray, List.set_cons_zero, List.set_cons_succ]
          refine' wpAnyH_take (i := 37) (oi := { dst := some 94, op := Op.load 3 (Operand.tmp 93), type := 3, pos := "law.go:90", after := #[{ on := 36, ground := Ground.data }, { on := 26, ground := Ground.guard }], guard := some (26, true) }) (v := ?vnf37) rfl (by kernel_rfl) (by kernel_rfl) (by kernel_rfl) (fun _ _ _ h => h) (Or.inl ⟨?gnf37, ?ynf37⟩) (by assumption) ?rnf37
          case gnf37 => rfl
          case ynf37 => (intro w hSw; (try dsimp only at hSw); go_simp; all_goals (with_reducible rfl))
          try simp only [Act.put, List.setIfInBounds_toArray, List.set_cons_zero, List.set_cons_succ]
          refine' wpAnyH_take (i := 38) (oi := { dst := some 95, op := Op.binOp BinOp.leq 3 (Operand.tmp 88) (Operand.tmp 94) 3, type := 4, pos := "law.go:90", after := #[{ on := 31, ground := Ground.data }, { on := 37, ground := Ground.data }, { on := 26, ground := Ground.guard }], guard := some (26, true) }) (v := ?vnf38) rfl (by kernel_rfl) (by kernel_rfl) (by kernel_rfl) (fun _ _ _ h => h) (Or.inl ⟨?gnf38, ?ynf38⟩) (by assumption) ?rnf38
          case gnf38 => rfl
          case ynf38 => (intro w hSw; (try dsimp only at hSw); go_simp; all_goals (with_reducible rfl))
          try simp only [Act.put, List.setIfInBounds_toArray, List.set_cons_zero, List.set_cons_succ]
          refine' wpAnyH_take (i := 39) (oi := { dst := some 96, op := Op.move (Operand.tmp 95), type := 4, pos := "law.go:90", after := #[{ on := 38, ground := Ground.data }, { on := 26, ground := Ground.chain }, { on := 26, ground := Ground.guard }], guard := some (26, true) }) (v := ?vnf39) rfl (by kernel_rfl) (by kernel_rfl) (by kernel_rfl) (fun _ _ _ h => h) (Or.inl ⟨?gnf39, ?ynf39⟩) (by assumption) ?rnf39
          case gnf39 => rfl
          case ynf39 => (intro w hSw; (try dsimp only at hSw); go_simp; all_goals (with_reducible rfl))
          try simp only [Act.put, List.setIfInBounds_toArray, List.set_cons_zero, List.set_cons_succ]
          refine' wpAnyH_take (i := 40) (oi := { dst := some 97, op := Op.move (Operand.tmp 5), type := 46, pos := "law.go:90", after := #[{ on := 39, ground := Ground.guard }], guard := some (39, false) }) (v := ?vnf40) rfl (by kernel_rfl) (by kernel_rfl) (by kernel_rfl) (fun _ _ _ h => h) (Or.inl ⟨?gnf40, ?ynf40⟩) (by assumption) ?rnf40
          case gnf40 => rfl
          case ynf40 => (intro w hSw; (try dsimp only at hSw); go_simp; all_goals (with_reducible rfl))
          try simp only [Act.put, List.setIfInBounds_toArray, List.set_cons_zero, List.set_cons_succ]
          refine' wpAnyH_take (i := 41) (oi := { dst := some 98, op := Op.move (Operand.tmp 10), type := 3, pos := "law.go:90", after := #[{ on := 39, ground := Ground.guard }], guard := some (39, false) }) (v := ?vnf41) rfl (by kernel_rfl) (by kernel_rfl) (by kernel_rfl) (fun _ _ _ h => h) (Or.inl ⟨?gnf41, ?ynf41⟩) (by assumption) ?rnf41
          case gnf41 => rfl
          case ynf41 => (intro w hSw; (try dsimp only at hSw); go_simp; all_goals (with_reducible rfl))
          try simp only [Act.put, List.setIfInBounds_toArray, List.set_cons_zero, List.set_cons_succ]
          refine' wpAnyH_take (i := 42) (oi := { dst := some 99, op := Op.indexAddr 46 (Operand.tmp 97) (Operand.tmp 98), type := 0, pos := "law.go:90", after := #[{ on := 40, ground := Ground.data }, { on := 41, ground := Ground.data }, { on := 39, ground := Ground.guard }], guard := some (39, false) }) (v := ?vnf42) rfl (by kernel_rfl) (by kernel_rfl) (by kernel_rfl) (fun _ _ _ h => h) (Or.inl ⟨?gnf42, ?ynf42⟩) (by assumption) ?rnf42
          case gnf42 => rfl
          case ynf42 => (intro w hSw; (try dsimp only at hSw); go_simp; all_goals (with_reducible rfl))
          try simp only [Act.put, List.setIfInBounds_toArray, List.set_cons_zero, List.set_cons_succ]
          refine' wpAnyH_take (i := 43) (oi := { dst := some 100, op := Op.fieldAddr 56 (Operand.tmp 99) 0, type := 0, pos := "law.go:90", after := #[{ on := 42, ground := Ground.data }, { on := 39, ground := Ground.guard }], guard := some (39, false) }) (v := ?vnf43) rfl (by kernel_rfl) (by kernel_rfl) (by kernel_rfl) (fun _ _ _ h => h) (Or.inl ⟨?gnf43, ?ynf43⟩) (by assumption) ?rnf43
          case gnf43 => rfl
          case ynf43 => (intro w hSw; (try dsimp only at hSw); go_simp; all_goals (with_reducible rfl))
          try simp only [Act.put, List.setIfInBounds_toArray, List.set_cons_zero, List.set_cons_succ]
          refine' wpAnyH_take (i := 44) (oi := { dst := some 101, op := Op.load 3 (Operand.tmp 100), type := 3, pos := "law.go:90", after := #[{ on := 43, ground := Ground.data }, { on := 39, ground := Ground.guard }], guard := some (39, false) }) (v := ?vnf44) rfl (by kernel_rfl) (by kernel_rfl) (by kernel_rfl) (fun _ _ _ h => h) (Or.inl ⟨?gnf44, ?ynf44⟩) (by assumption) ?rnf44
          case gnf44 => rfl
          case ynf44 => (intro w hSw; (try dsimp only at hSw); go_simp; all_goals (with_reducible rfl))
          try simp only [Act.put, List.setIfInBounds_toArray, List.set_cons_zero, List.set_cons_succ]
          refine' wpAnyH_take (i := 45) (oi := { dst := some 102, op := Op.move (Operand.tmp 5), type := 46, pos := "law.go:90", after := #[{ on := 39, ground := Ground.guard }], guard := some (39, false) }) (v := ?vnf45) rfl (by kernel_rfl) (by kernel_rfl) (by kernel_rfl) (fun _ _ _ h => h) (Or.inl ⟨?gnf45, ?ynf45⟩) (by assumption) ?rnf45
          case gnf45 => rfl
          case ynf45 => (intro w hSw; (try dsimp only at hSw); go_simp; all_goals (with_reducible rfl))
          try simp only [Act.put, List.setIfInBounds_toArray, List.set_cons_zero, List.set_cons_succ]
          refine' wpAnyH_take (i := 46) (oi := { dst := some 103, op := Op.move (Operand.tmp 10), type := 3, pos := "law.go:90", after := #[{ on := 39, ground := Ground.guard }], guard := some (39, false) }) (v := ?vnf46) rfl (by kernel_rfl) (by kernel_rfl) (by kernel_rfl) (fun _ _ _ h => h) (Or.inl ⟨?gnf46, ?ynf46⟩) (by assumption) ?rnf46
          case gnf46 => rfl
          case ynf46 => (intro w hSw; (try dsimp only at hSw); go_simp; all_goals (with_reducible rfl))
          try simp only [Act.put, List.setIfInBounds_toArray, List.set_cons_zero, List.set_cons_succ]
          refine' wpAnyH_take (i := 47) (oi := { dst := some 104, op := Op.binOp BinOp.sub 3 (Operand.tmp 103) (Operand.const (Value.int IntKind.i64 1)) 3, type := 3, pos := "law.go:90", after := #[{ on := 46, ground := Ground.data }, { on := 39, ground := Ground.guard }], guard := some (39, false) }) (v := ?vnf47) rfl (by kernel_rfl) (by kernel_rfl) (by kernel_rfl) (fun _ _ _ h => h) (Or.inl ⟨?gnf47, ?ynf47⟩) (by assumption) ?rnf47
          case gnf47 => rfl
          case ynf47 => (intro w hSw; (try dsimp only at hSw); go_simp; all_goals (with_reducible rfl))
          try simp only [Act.put, List.setIfInBounds_toArray, List.set_cons_zero, List.set_cons_succ]
          refine' wpAnyH_take (i := 48) (oi := { dst := some 105, op := Op.indexAddr 46 (Operand.tmp 102) (Operand.tmp 104), type := 0, pos := "law.go:90", after := #[{ on := 45, ground := Ground.data }, { on := 47, ground := Ground.data }, { on := 39, ground := Ground.guard }], guard := some (39, false) }) (v := ?vnf48) rfl (by kernel_rfl) (by kernel_rfl) (by kernel_rfl) (fun _ _ _ h => h) (Or.inl ⟨?gnf48, ?ynf48⟩) (by assumption) ?rnf48
          case gnf48 => rfl
          case ynf48 => (intro w hSw; (try dsimp only at hSw); go_simp; all_goals (with_reducible rfl))
          try simp only [Act.put, List.setIfInBounds_toArray, List.set_cons_zero, List.set_cons_succ]
          refine' wpAnyH_take (i := 49) (oi := { dst := some 106, op := Op.fieldAddr 56 (Operand.tmp 105) 0, type := 0, pos := "law.go:90", after := #[{ on := 48, ground := Ground.data }, { on := 39, ground := Ground.guard }], guard := some (39, false) }) (v := ?vnf49) rfl (by kernel_rfl) (by kernel_rfl) (by kernel_rfl) (fun _ _ _ h => h) (Or.inl ⟨?gnf49, ?ynf49⟩) (by assumption) ?rnf49
          case gnf49 => rfl
          case ynf49 => (intro w hSw; (try dsimp only at hSw); go_simp; all_goals (with_reducible rfl))
          try simp only [Act.put, List.setIfInBounds_toArray, List.set_cons_zero, List.set_cons_succ]
          refine' wpAnyH_take (i := 50) (oi := { dst := some 107, op := Op.load 3 (Operand.tmp 106), type := 3, pos := "law.go:90", after := #[{ on := 49, ground := Ground.data }, { on := 39, ground := Ground.guard }], guard := some (39, false) }) (v := ?vnf50) rfl (by kernel_rfl) (by kernel_rfl) (by kernel_rfl) (fun _ _ _ h => h) (Or.inl ⟨?gnf50, ?ynf50⟩) (by assumption) ?rnf50
          case gnf50 => rfl
          case ynf50 => (intro w hSw; (try dsimp only at hSw); go_simp; all_goals (with_reducible rfl))
          try simp only [Act.put, List.setIfInBounds_toArray, List.set_cons_zero, List.set_cons_succ]
          refine' wpAnyH_take (i := 51) (oi := { dst := some 108, op := Op.binOp BinOp.lss 3 (Operand.tmp 101) (Operand.tmp 107) 3, type := 4, pos := "law.go:90", after := #[{ on := 44, ground := Ground.data }, { on := 50, ground := Ground.data }, { on := 39, ground := Ground.guard }], guard := some (39, false) }) (v := ?vnf51) rfl (by kernel_rfl) (by kernel_rfl) (by kernel_rfl) (fun _ _ _ h => h) (Or.inl ⟨?gnf51, ?ynf51⟩) (by assumption) ?rnf51
          case gnf51 => rfl
          case ynf51 => (intro w hSw; (try dsimp only at hSw); go_simp; all_goals (with_reducible rfl))
          try simp only [Act.put, List.setIfInBounds_toArray, List.set_cons_zero, List.set_cons_succ]
          refine' wpAnyH_take (i := 52) (oi := { dst := some 109, op := Op.pick (Operand.tmp 96) (Operand.const (Value.bool true)) (Operand.tmp 108), type := 4, pos := "law.go:90", after := #[{ on := 39, ground := Ground.data }, { on := 51, ground := Ground.data }, { on := 26, ground := Ground.guard }], guard := some (26, true) }) (v := ?vnf52) rfl (by kernel_rfl) (by kernel_rfl) (by kernel_rfl) (fun _ _ _ h => h) (Or.inl ⟨?gnf52, ?ynf52⟩) (by assumption) ?rnf52
          case gnf52 => rfl
          case ynf52 => (intro w hSw; (try dsimp only at hSw); go_simp; all_goals (with_reducible rfl))
          try simp only [Act.put, List.setIfInBounds_toArray, List.set_cons_zero, List.set_cons_succ]
          refine' wpAnyH_take (i := 53) (oi := { dst := some 110, op := Op.pick (Operand.tmp 83) (Operand.tmp 109) (Operand.const (Value.bool false)), type := 4, pos := "law.go:90", after := #[{ on := 26, ground := Ground.data }, { on := 52, ground := Ground.data }, { on := 23, ground := Ground.guard }], guard := some (23, false) }) (v := ?vnf53) rfl (by kernel_rfl) (by kernel_rfl) (by kernel_rfl) (fun _ _ _ h => h) (Or.inl ⟨?gnf53, ?ynf53⟩) (by assumption) ?rnf53
          case gnf53 => rfl
          case ynf53 => (intro w hSw; (try dsimp only at hSw); go_simp; all_goals (with_reducible rfl))
          try simp only [Act.put, List.setIfInBounds_toArray, List.set_cons_zero, List.set_cons_succ]
          refine' wpAnyH_take (i := 54) (oi := { dst := some 111, op := Op.pick (Operand.tmp 80) (Operand.const (Value.bool true)) (Operand.tmp 110), type := 4, pos := "law.go:90", after := #[{ on := 23, ground := Ground.data }, { on := 53, ground := Ground.data }], guard := none }) (v := ?vnf54) rfl (by kernel_rfl) (by kernel_rfl) (by kernel_rfl) (fun _ _ _ h => h) (Or.inl ⟨?gnf54, ?ynf54⟩) (by assumption) ?rnf54
          case gnf54 => rfl
          case ynf54 => (intro w hSw; (try dsimp only at hSw); go_simp; all_goals (with_reducible rfl))
          try simp only [Act.put, List.setIfInBounds_toArray, List.set_cons_zero, List.set_cons_succ]
          refine wpAnyH_done (by kernel_rfl) ?_ _
          have hh : Below wr.heap.size wr w5 := hHeld.2.2.2.2
          go_wp2_with fail
          go_round
          case rel => exact ⟨j + 1 + 1, by omega, by go_num, HC.out.below hh, HB.out.trans (hh.mono HB.out.size)⟩
          case measure => simp [intOf]; omega
      · have e : i = 8 := by omega
        subst e
        clear hc
        go_wp2_with fail
        refine (awake5 _).mono ?_; rintro e w4 ⟨rfl, hb⟩
        have hB4 := Lib.hid (hB.trans (hb.mono hB.size))
        clear hb
        go_wp2
        go_ret
        exact ⟨rfl, hB4.out⟩
  · simp only [Bool.false_eq_true, if_false, if_true] at hN2
    subst hN2
    go_wp2_with fail
    clear d0
    go_loopw [10] (fun x wr => ∃ i : Nat, i ≤ 13 ∧ x = .int .i64 (i : Int) ∧ CellsF wr g xs ∧ Below w.heap.size w wr) (fun x _ => (13 - intOf x).toNat)
    case atStart => exact ⟨0, by omega, rfl, HC.out, h1⟩
    case round =>
      clear h1 HC
      obtain ⟨i, hi, rfl, hc, hB⟩ := hrel
      have HC := Lib.hid hc
      by_cases c : i < 13
      · obtain ⟨⟨K, D⟩, hK⟩ : ∃ x, xs[i]? = some x := ⟨xs[i]'(by rw [HE.out]; exact c), by simp⟩
        obtain ⟨hk, hr, b1, b2, b3, b4⟩ := F.out _ (List.mem_of_getElem? hK)
        obtain ⟨c0, c1⟩ := hc i _ hK
        simp only at hk hr b1 b2 b3 b4 c0 c1
        have hk := Lib.hid hk
        have hr := Lib.hid hr
        have hI : I64 D := by unfold I64; omega
        have HB := Lib.hid hB
        by_cases c00 : i = 0
        · have e' : (i : Int) = 0 := by omega
          rw [e']
          clear e'
          subst c00
          clear hc hB hK
          simp only [Nat.zero_mul, Nat.zero_add] at c0 c1
          go_wp2_with fail
          refine wp_region_held_drew (S := fun w' => w'.cell? ⟨g, 0, none⟩ = some (.int .i64 K) ∧ w'.cell? ⟨g, 1, none⟩ = some (.int .i64 D) ∧ Below wr.heap.size wr w') (by kernel_rfl) ⟨c0, c1, (Below.refl _ _).drew⟩ (fun hHeld => ?_)
          refine' wpAnyH_take (i := 0) (oi := { dst := some 57, op := Op.move (Operand.tmp 5), type := 46, pos := "law.go:90", after := #[], guard := none }) (v := ?vmt0) rfl (by kernel_rfl) (by kernel_rfl) (by kernel_rfl) (fun _ _ _ h => h) (Or.inl ⟨?gmt0, ?ymt0⟩) (by assumption) ?rmt0
          case gmt0 => rfl
          case ymt0 => (intro w hSw; (try dsimp only at hSw); go_simp; all_goals (with_reducible rfl))
          try simp only [Act.put, List.setIfInBounds_toArray, List.set_cons_zero, List.set_cons_succ]
          refine' wpAnyH_take (i := 1) (oi := { dst := some 58, op := Op.move (Operand.tmp 10), type := 3, pos := "law.go:90", after := #[], guard := none }) (v := ?vmt1) rfl (by kernel_rfl) (by kernel_rfl) (by kernel_rfl) (fun _ _ _ h => h) (Or.inl ⟨?gmt1, ?ymt1⟩) (by assumption) ?rmt1
          case gmt1 => rfl
          case ymt1 => (intro w hSw; (try dsimp only at hSw); go_simp; all_goals (with_reducible rfl))
          try simp only [Act.put, List.setIfInBounds_toArray, List.set_cons_zero, List.set_cons_succ]
          refine' wpAnyH_take (i := 2) (oi := { dst := some 59, op := Op.indexAddr 46 (Operand.tmp 57) (Operand.tmp 58), type := 0, pos := "law.go:90", after := #[{ on := 0, ground := Ground.data }, { on := 1, ground := Ground.data }], guard := none }) (v := ?vmt2) rfl (by kernel_rfl) (by kernel_rfl) (by kernel_rfl) (fun _ _ _ h => h) (Or.inl ⟨?gmt2, ?ymt2⟩) (by assumption) ?rmt2
          case gmt2 => rfl
          case ymt2 => (intro w hSw; (try dsimp only at hSw); go_simp; all_goals (with_reducible rfl))
          try simp only [Act.put, List.setIfInBounds_toArray, List.set_cons_zero, List.set_cons_succ]
          refine' wpAnyH_take (i := 3) (oi := { dst := some 60, op := Op.fieldAddr 56 (Operand.tmp 59) 1, type := 0, pos := "law.go:90", after := #[{ on := 2, ground := Ground.data }], guard := none }) (v := ?vmt3) rfl (by kernel_rfl) (by kernel_rfl) (by kernel_rfl) (fun _ _ _ h => h) (Or.inl ⟨?gmt3, ?ymt3⟩) (by assumption) ?rmt3
          case gmt3 => rfl
          case ymt3 => (intro w hSw; (try dsimp only at hSw); go_simp; all_goals (with_reducible rfl))
          try simp only [Act.put, List.setIfInBounds_toArray, List.set_cons_zero, List.set_cons_succ]
          refine' wpAnyH_take (i := 4) (oi := { dst := some 61, op := Op.load 3 (Operand.tmp 60), type := 3, pos := "law.go:90", after := #[{ on := 3, ground := Ground.data }], guard := none }) (v := ?vmt4) rfl (by kernel_rfl) (by kernel_rfl) (by kernel_rfl) (fun _ _ _ h => h) (Or.inl ⟨?gmt4, ?ymt4⟩) (by assumption) ?rmt4
          case gmt4 => rfl
          case ymt4 => (intro w hSw; (try dsimp only at hSw); go_simp; all_goals (with_reducible rfl))
          try simp only [Act.put, List.setIfInBounds_toArray, List.set_cons_zero, List.set_cons_succ]
          refine' wpAnyH_take (i := 5) (oi := { dst := some 62, op := Op.move (Operand.tmp 1), type := 4, pos := "law.go:90", after := #[], guard := none }) (v := ?vmt5) rfl (by kernel_rfl) (by kernel_rfl) (by kernel_rfl) (fun _ _ _ h => h) (Or.inl ⟨?gmt5, ?ymt5⟩) (by assumption) ?rmt5
          case gmt5 => rfl
          case ymt5 => (intro w hSw; (try dsimp only at hSw); go_simp; all_goals (with_reducible rfl))
          try simp only [Act.put, List.setIfInBounds_toArray, List.set_cons_zero, List.set_cons_succ]
          refine' wpAnyH_take (i := 7) (oi := { dst := some 64, op := Op.move (Operand.tmp 5), type := 46, pos := "law.go:90", after := #[], guard := none }) (v := ?vmt7) rfl (by kernel_rfl) (by kernel_rfl) (by kernel_rfl) (fun _ _ _ h => h) (Or.inl ⟨?gmt7, ?ymt7⟩) (by assumption) ?rmt7
          case gmt7 => rfl
          case ymt7 => (intro w hSw; (try dsimp only at hSw); go_simp; all_goals (with_reducible rfl))
          try simp only [Act.put, List.setIfInBounds_toArray, List.set_cons_zero, List.set_cons_succ]
          refine' wpAnyH_take (i := 8) (oi := { dst := some 65, op := Op.move (Operand.tmp 10), type := 3, pos := "law.go:90", after := #[], guard := none }) (v := ?vmt8) rfl (by kernel_rfl) (by kernel_rfl) (by kernel_rfl) (fun _ _ _ h => h) (Or.inl ⟨?gmt8, ?ymt8⟩) (by assumption) ?rmt8
          case gmt8 => rfl
          case ymt8 => (intro w hSw; (try dsimp only at hSw); go_simp; all_goals (with_reducible rfl))
          try simp only [Act.put, List.setIfInBounds_toArray, List.set_cons_zero, List.set_cons_succ]
          refine' wpAnyH_take (i := 9) (oi := { dst := some 66, op := Op.indexAddr 46 (Operand.tmp 64) (Operand.tmp 65), type := 0, pos := "law.go:90", after := #[{ on := 7, ground := Ground.data }, { on := 8, ground := Ground.data }], guard := none }) (v := ?vmt9) rfl (by kernel_rfl) (by kernel_rfl) (by kernel_rfl) (fun _ _ _ h => h) (Or.inl ⟨?gmt9, ?ymt9⟩) (by assumption) ?rmt9
          case gmt9 => rfl
          case ymt9 => (intro w hSw; (try dsimp only at hSw); go_simp; all_goals (with_reducible rfl))
          try simp only [Act.put, List.setIfInBounds_toArray, List.set_cons_zero, List.set_cons_succ]
          refine' wpAnyH_take (i := 10) (oi := { dst := some 67, op := Op.fieldAddr 56 (Operand.tmp 66) 0, type := 0, pos := "law.go:90", after := #[{ on := 9, ground := Ground.data }], guard := none }) (v := ?vmt10) rfl (by kernel_rfl) (by kernel_rfl) (by kernel_rfl) (fun _ _ _ h => h) (Or.inl ⟨?gmt10, ?ymt10⟩) (by assumption) ?rmt10
          case gmt10 => rfl
          case ymt10 => (intro w hSw; (try dsimp only at hSw); go_simp; all_goals (with_reducible rfl))
          try simp only [Act.put, List.setIfInBounds_toArray, List.set_cons_zero, List.set_cons_succ]
          refine' wpAnyH_take (i := 11) (oi := { dst := some 68, op := Op.load 3 (Operand.tmp 67), type := 3, pos := "law.go:90", after := #[{ on := 10, ground := Ground.data }], guard := none }) (v := ?vmt11) rfl (by kernel_rfl) (by kernel_rfl) (by kernel_rfl) (fun _ _ _ h => h) (Or.inl ⟨?gmt11, ?ymt11⟩) (by assumption) ?rmt11
          case gmt11 => rfl
          case ymt11 => (intro w hSw; (try dsimp only at hSw); go_simp; all_goals (with_reducible rfl))
          try simp only [Act.put, List.setIfInBounds_toArray, List.set_cons_zero, List.set_cons_succ]
          refine wpAnyH_ready (rs := [6]) (by kernel_rfl) (by simp) ?_
          refine' AllReadyH.cons (o := { dst := some 63, op := Op.call { callee := Callee.value (Operand.func 48), args := #[Operand.tmp 61, Operand.tmp 62], argTypes := #[3, 4] }, type := 3, pos := "law.go:90", after := #[{ on := 4, ground := Ground.data }, { on := 5, ground := Ground.data }], guard := none }) rfl (fun KK hKK => ?smt6) AllReadyH.nil
          go_simp
          refine (fKind_any _ K true _ hk.out).mono ?_; rintro e w4 ⟨rfl, hb⟩
          refine' hKK.out _ _ ?hmt6 (fun hHeld => ?rmt6)
          case hmt6 => exact ⟨(hb.cell (p := ⟨g, 0, none⟩) (World.block_lt_of_cell? _ _ hHeld.1)).trans hHeld.1, (hb.cell (p := ⟨g, 1, none⟩) (World.block_lt_of_cell? _ _ hHeld.2.1)).trans hHeld.2.1, hHeld.2.2.trans (hb.mono hHeld.2.2.size)⟩
          clear hKK KK
          try simp only [Act.put, List.setIfInBounds_toArray, List.set_cons_zero, List.set_cons_succ]
          refine' wpAnyH_take (i := 12) (oi := { dst := some 69, op := Op.binOp BinOp.neq 3 (Operand.tmp 63) (Operand.tmp 68) 3, type := 4, pos := "law.go:90", after := #[{ on := 6, ground := Ground.data }, { on := 11, ground := Ground.data }], guard := none }) (v := ?vmt12) rfl (by kernel_rfl) (by kernel_rfl) (by kernel_rfl) (fun _ _ _ h => h) (Or.inl ⟨?gmt12, ?ymt12⟩) (by assumption) ?rmt12
          case gmt12 => rfl
          case ymt12 => (intro w hSw; (try dsimp only at hSw); go_simp; all_goals (with_reducible rfl))
          try simp only [Act.put, List.setIfInBounds_toArray, List.set_cons_zero, List.set_cons_succ]
          refine' wpAnyH_take (i := 13) (oi := { dst := some 70, op := Op.move (Operand.tmp 69), type := 4, pos := "law.go:90", after := #[{ on := 12, ground := Ground.data }, { on := 6, ground := Ground.chain }], guard := none }) (v := ?vmt13) rfl (by kernel_rfl) (by kernel_rfl) (by kernel_rfl) (fun _ _ _ h => h) (Or.inl ⟨?gmt13, ?ymt13⟩) (by assumption) ?rmt13
          case gmt13 => rfl
          case ymt13 => (intro w hSw; (try dsimp only at hSw); go_simp; all_goals (with_reducible rfl))
          try simp only [Act.put, List.setIfInBounds_toArray, List.set_cons_zero, List.set_cons_succ]
          refine' wpAnyH_take (i := 14) (oi := { dst := some 71, op := Op.move (Operand.tmp 5), type := 46, pos := "law.go:90", after := #[{ on := 13, ground := Ground.guard }], guard := some (13, false) }) (v := ?vmt14) rfl (by kernel_rfl) (by kernel_rfl) (by kernel_rfl) (fun _ _ _ h => h) (Or.inl ⟨?gmt14, ?ymt14⟩) (by assumption) ?rmt14
          case gmt14 => rfl
          case ymt14 => (intro w hSw; (try dsimp only at hSw); go_simp; all_goals (with_reducible rfl))
          try simp only [Act.put, List.setIfInBounds_toArray, List.set_cons_zero, List.set_cons_succ]
          refine' wpAnyH_take (i := 15) (oi := { dst := some 72, op := Op.move (Operand.tmp 10), type := 3, pos := "law.go:90", after := #[{ on := 13, ground := Ground.guard }], guard := some (13, false) }) (v := ?vmt15) rfl (by kernel_rfl) (by kernel_rfl) (by kernel_rfl) (fun _ _ _ h => h) (Or.inl ⟨?gmt15, ?ymt15⟩) (by assumption) ?rmt15
          case gmt15 => rfl
          case ymt15 => (intro w hSw; (try dsimp only at hSw); go_simp; all_goals (with_reducible rfl))
          try simp only [Act.put, List.setIfInBounds_toArray, List.set_cons_zero, List.set_cons_succ]
          refine' wpAnyH_take (i := 16) (oi := { dst := some 73, op := Op.indexAddr 46 (Operand.tmp 71) (Operand.tmp 72), type := 0, pos := "law.go:90", after := #[{ on := 14, ground := Ground.data }, { on := 15, ground := Ground.data }, { on := 13, ground := Ground.guard }], guard := some (13, false) }) (v := ?vmt16) rfl (by kernel_rfl) (by kernel_rfl) (by kernel_rfl) (fun _ _ _ h => h) (Or.inl ⟨?gmt16, ?ymt16⟩) (by assumption) ?rmt16
          case gmt16 => rfl
          case ymt16 => (intro w hSw; (try dsimp only at hSw); go_simp; all_goals (with_reducible rfl))
          try simp only [Act.put, List.setIfInBounds_toArray, List.set_cons_zero, List.set_cons_succ]
          refine' wpAnyH_take (i := 17) (oi := { dst := some 74, op := Op.fieldAddr 56 (Operand.tmp 73) 1, type := 0, pos := "law.go:90", after := #[{ on := 16, ground := Ground.data }, { on := 13, ground := Ground.guard }], guard := some (13, false) }) (v := ?vmt17) rfl (by kernel_rfl) (by kernel_rfl) (by kernel_rfl) (fun _ _ _ h => h) (Or.inl ⟨?gmt17, ?ymt17⟩) (by assumption) ?rmt17
          case gmt17 => rfl
          case ymt17 => (intro w hSw; (try dsimp only at hSw); go_simp; all_goals (with_reducible rfl))
          try simp only [Act.put, List.setIfInBounds_toArray, List.set_cons_zero, List.set_cons_succ]
          refine' wpAnyH_take (i := 18) (oi := { dst := some 75, op := Op.load 3 (Operand.tmp 74), type := 3, pos := "law.go:90", after := #[{ on := 17, ground := Ground.data }, { on := 13, ground := Ground.guard }], guard := some (13, false) }) (v := ?vmt18) rfl (by kernel_rfl) (by kernel_rfl) (by kernel_rfl) (fun _ _ _ h => h) (Or.inl ⟨?gmt18, ?ymt18⟩) (by assumption) ?rmt18
          case gmt18 => rfl
          case ymt18 => (intro w hSw; (try dsimp only at hSw); go_simp; all_goals (with_reducible rfl))
          try simp only [Act.put, List.setIfInBounds_toArray, List.set_cons_zero, List.set_cons_succ]
          refine' wpAnyH_take (i := 19) (oi := { dst := some 76, op := Op.move (Operand.tmp 1), type := 4, pos := "law.go:90", after := #[{ on := 13, ground := Ground.guard }], guard := some (13, false) }) (v := ?vmt19) rfl (by kernel_rfl) (by kernel_rfl) (by kernel_rfl) (fun _ _ _ h => h) (Or.inl ⟨?gmt19, ?ymt19⟩) (by assumption) ?rmt19
          case gmt19 => rfl
          case ymt19 => (intro w hSw; (try dsimp only at hSw); go_simp; all_goals (with_reducible rfl))
          try simp only [Act.put, List.setIfInBounds_toArray, List.set_cons_zero, List.set_cons_succ]
          refine wpAnyH_ready (rs := [20]) (by kernel_rfl) (by simp) ?_
          refine' AllReadyH.cons (o := { dst := some 77, op := Op.call { callee := Callee.value (Operand.func 50), args := #[Operand.tmp 75, Operand.tmp 76], argTypes := #[3, 4] }, type := 4, pos := "law.go:90", after := #[{ on := 18, ground := Ground.data }, { on := 19, ground := Ground.data }, { on := 13, ground := Ground.chain }, { on := 13, ground := Ground.guard }], guard := some (13, false) }) rfl (fun KK hKK => ?smt20) AllReadyH.nil
          go_simp
          refine (fRest_yes _ true _ hI hr.out).mono ?_; rintro e w5 ⟨rfl, hb⟩
          refine' hKK.out _ _ ?hmt20 (fun hHeld => ?rmt20)
          case hmt20 => exact ⟨(hb.cell (p := ⟨g, 0, none⟩) (World.block_lt_of_cell? _ _ hHeld.1)).trans hHeld.1, (hb.cell (p := ⟨g, 1, none⟩) (World.block_lt_of_cell? _ _ hHeld.2.1)).trans hHeld.2.1, hHeld.2.2.trans (hb.mono hHeld.2.2.size)⟩
          clear hKK KK
          try simp only [Act.put, List.setIfInBounds_toArray, List.set_cons_zero, List.set_cons_succ]
          refine' wpAnyH_take (i := 21) (oi := { dst := some 78, op := Op.unOp UnOp.not 4 (Operand.tmp 77), type := 4, pos := "law.go:90", after := #[{ on := 20, ground := Ground.data }, { on := 13, ground := Ground.guard }], guard := some (13, false) }) (v := ?vmt21) rfl (by kernel_rfl) (by kernel_rfl) (by kernel_rfl) (fun _ _ _ h => h) (Or.inl ⟨?gmt21, ?ymt21⟩) (by assumption) ?rmt21
          case gmt21 => rfl
          case ymt21 => (intro w hSw; (try dsimp only at hSw); go_simp; all_goals (with_reducible rfl))
          try simp only [Act.put, List.setIfInBounds_toArray, List.set_cons_zero, List.set_cons_succ]
          refine' wpAnyH_take (i := 22) (oi := { dst := some 79, op := Op.pick (Operand.tmp 70) (Operand.const (Value.bool true)) (Operand.tmp 78), type := 4, pos := "law.go:90", after := #[{ on := 13, ground := Ground.data }, { on := 21, ground := Ground.data }], guard := none }) (v := ?vmt22) rfl (by kernel_rfl) (by kernel_rfl) (by kernel_rfl) (fun _ _ _ h => h) (Or.inl ⟨?gmt22, ?ymt22⟩) (by assumption) ?rmt22
          case gmt22 => rfl
          case ymt22 => (intro w hSw; (try dsimp only at hSw); go_simp; all_goals (with_reducible rfl))
          try simp only [Act.put, List.setIfInBounds_toArray, List.set_cons_zero, List.set_cons_succ]
          refine' wpAnyH_take (i := 23) (oi := { dst := some 80, op := Op.move (Operand.tmp 79), type := 4, pos := "law.go:90", after := #[{ on := 22, ground := Ground.data }, { on := 20, ground := Ground.chain }], guard := none }) (v := ?vmt23) rfl (by kernel_rfl) (by kernel_rfl) (by kernel_rfl) (fun _ _ _ h => h) (Or.inl ⟨?gmt23, ?ymt23⟩) (by assumption) ?rmt23
          case gmt23 => rfl
          case ymt23 => (intro w hSw; (try dsimp only at hSw); go_simp; all_goals (with_reducible rfl))
          try simp only [Act.put, List.setIfInBounds_toArray, List.set_cons_zero, List.set_cons_succ]
          refine' wpAnyH_take (i := 24) (oi := { dst := some 81, op := Op.move (Operand.tmp 10), type := 3, pos := "law.go:90", after := #[{ on := 23, ground := Ground.guard }], guard := some (23, false) }) (v := ?vmt24) rfl (by kernel_rfl) (by kernel_rfl) (by kernel_rfl) (fun _ _ _ h => h) (Or.inl ⟨?gmt24, ?ymt24⟩) (by assumption) ?rmt24
          case gmt24 => rfl
          case ymt24 => (intro w hSw; (try dsimp only at hSw); go_simp; all_goals (with_reducible rfl))
          try simp only [Act.put, List.setIfInBounds_toArray, List.set_cons_zero, List.set_cons_succ]
          refine' wpAnyH_take (i := 25) (oi := { dst := some 82, op := Op.binOp BinOp.gtr 3 (Operand.tmp 81) (Operand.const (Value.int IntKind.i64 0)) 3, type := 4, pos := "law.go:90", after := #[{ on := 24, ground := Ground.data }, { on := 23, ground := Ground.guard }], guard := some (23, false) }) (v := ?vmt25) rfl (by kernel_rfl) (by kernel_rfl) (by kernel_rfl) (fun _ _ _ h => h) (Or.inl ⟨?gmt25, ?ymt25⟩) (by assumption) ?rmt25
          case gmt25 => rfl
          case ymt25 => (intro w hSw; (try dsimp only at hSw); go_simp; all_goals (with_reducible rfl))
          try simp only [Act.put, List.setIfInBounds_toArray, List.set_cons_zero, List.set_cons_succ]
          refine' wpAnyH_take (i := 26) (oi := { dst := some 83, op := Op.move (Operand.tmp 82), type := 4, pos := "law.go:90", after := #[{ on := 25, ground := Ground.data }, { on := 23, ground := Ground.chain }, { on := 23, ground := Ground.guard }], guard := some (23, false) }) (v := ?vmt26) rfl (by kernel_rfl) (by kernel_rfl) (by kernel_rfl) (fun _ _ _ h => h) (Or.inl ⟨?gmt26, ?ymt26⟩) (by assumption) ?rmt26
          case gmt26 => rfl
          case ymt26 => (intro w hSw; (try dsimp only at hSw); go_simp; all_goals (with_reducible rfl))
          try simp only [Act.put, List.setIfInBounds_toArray, List.set_cons_zero, List.set_cons_succ]
          refine' wpAnyH_take (i := 27) (oi := { dst := some 84, op := Op.move (Operand.tmp 5), type := 46, pos := "law.go:90", after := #[{ on := 26, ground := Ground.guard }], guard := some (26, true) }) (v := undef) rfl (by kernel_rfl) (by kernel_rfl) (by kernel_rfl) (fun _ _ _ h => h) (Or.inr ⟨?gmt27, rfl⟩) (by assumption) ?rmt27
          case gmt27 => rfl
          try simp only [Act.put, List.setIfInBounds_toArray, List.set_cons_zero, List.set_cons_succ]
          refine' wpAnyH_take (i := 28) (oi := { dst := some 85, op := Op.move (Operand.tmp 10), type := 3, pos := "law.go:90", after := #[{ on := 26, ground := Ground.guard }], guard := some (26, true) }) (v := undef) rfl (by kernel_rfl) (by kernel_rfl) (by kernel_rfl) (fun _ _ _ h => h) (Or.inr ⟨?gmt28, rfl⟩) (by assumption) ?rmt28
          case gmt28 => rfl
          try simp only [Act.put, List.setIfInBounds_toArray, List.set_cons_zero, List.set_cons_succ]
          refine' wpAnyH_take (i := 29) (oi := { dst := some 86, op := Op.indexAddr 46 (Operand.tmp 84) (Operand.tmp 85), type := 0, pos := "law.go:90", after := #[{ on := 27, ground := Ground.data }, { on := 28, ground := Ground.data }, { on := 26, ground := Ground.guard }], guard := some (26, true) }) (v := undef) rfl (by kernel_rfl) (by kernel_rfl) (by kernel_rfl) (fun _ _ _ h => h) (Or.inr ⟨?gmt29, rfl⟩) (by assumption) ?rmt29
          case gmt29 => rfl
          try simp only [Act.put, List.setIfInBounds_toArray, List.set_cons_zero, List.set_cons_succ]
          refine' wpAnyH_take (i := 30) (oi := { dst := some 87, op := Op.fieldAddr 56 (Operand.tmp 86) 1, type := 0, pos := "law.go:90", after := #[{ on := 29, ground := Ground.data }, { on := 26, ground := Ground.guard }], guard := some (26, true) }) (v := undef) rfl (by kernel_rfl) (by kernel_rfl) (by kernel_rfl) (fun _ _ _ h => h) (Or.inr ⟨?gmt30, rfl⟩) (by assumption) ?rmt30
          case gmt30 => rfl
          try simp only [Act.put, List.setIfInBounds_toArray, List.set_cons_zero, List.set_cons_succ]
          refine' wpAnyH_take (i := 31) (oi := { dst := some 88, op := Op.load 3 (Operand.tmp 87), type := 3, pos := "law.go:90", after := #[{ on := 30, ground := Ground.data }, { on := 26, ground := Ground.guard }], guard := some (26, true) }) (v := undef) rfl (by kernel_rfl) (by kernel_rfl) (by kernel_rfl) (fun _ _ _ h => h) (Or.inr ⟨?gmt31, rfl⟩) (by assumption) ?rmt31
          case gmt31 => rfl
          try simp only [Act.put, List.setIfInBounds_toArray, List.set_cons_zero, List.set_cons_succ]
          refine' wpAnyH_take (i := 32) (oi := { dst := some 89, op := Op.move (Operand.tmp 5), type := 46, pos := "law.go:90", after := #[{ on := 26, ground := Ground.guard }], guard := some (26, true) }) (v := undef) rfl (by kernel_rfl) (by kernel_rfl) (by kernel_rfl) (fun _ _ _ h => h) (Or.inr ⟨?gmt32, rfl⟩) (by assumption) ?rmt32
          case gmt32 => rfl
          try simp only [Act.put, List.setIfInBounds_toArray, List.set_cons_zero, List.set_cons_succ]
          refine' wpAnyH_take (i := 33) (oi := { dst := some 90, op := Op.move (Operand.tmp 10), type := 3, pos := "law.go:90", after := #[{ on := 26, ground := Ground.guard }], guard := some (26, true) }) (v := undef) rfl (by kernel_rfl) (by kernel_rfl) (by kernel_rfl) (fun _ _ _ h => h) (Or.inr ⟨?gmt33, rfl⟩) (by assumption) ?rmt33
          case gmt33 => rfl
          try simp only [Act.put, List.setIfInBounds_toArray, List.set_cons_zero, List.set_cons_succ]
          refine' wpAnyH_take (i := 34) (oi := { dst := some 91, op := Op.binOp BinOp.sub 3 (Operand.tmp 90) (Operand.const (Value.int IntKind.i64 1)) 3, type := 3, pos := "law.go:90", after := #[{ on := 33, ground := Ground.data }, { on := 26, ground := Ground.guard }], guard := some (26, true) }) (v := undef) rfl (by kernel_rfl) (by kernel_rfl) (by kernel_rfl) (fun _ _ _ h => h) (Or.inr ⟨?gmt34, rfl⟩) (by assumption) ?rmt34
          case gmt34 => rfl
          try simp only [Act.put, List.setIfInBounds_toArray, List.set_cons_zero, List.set_cons_succ]
          refine' wpAnyH_take (i := 35) (oi := { dst := some 92, op := Op.indexAddr 46 (Operand.tmp 89) (Operand.tmp 91), type := 0, pos := "law.go:90", after := #[{ on := 32, ground := Ground.data }, { on := 34, ground := Ground.data }, { on := 26, ground := Ground.guard }], guard := some (26, true) }) (v := undef) rfl (by kernel_rfl) (by kernel_rfl) (by kernel_rfl) (fun _ _ _ h => h) (Or.inr ⟨?gmt35, rfl⟩) (by assumption) ?rmt35
          case gmt35 => rfl
          try simp only [Act.put, List.setIfInBounds_toArray, List.set_cons_zero, List.set_cons_succ]
          refine' wpAnyH_take (i := 36) (oi := { dst := some 93, op := Op.fieldAddr 56 (Operand.tmp 92) 1, type := 0, pos := "law.go:90", after := #[{ on := 35, ground := Ground.data }, { on := 26, ground := Ground.guard }], guard := some (26, true) }) (v := undef) rfl (by kernel_rfl) (by kernel_rfl) (by kernel_rfl) (fun _ _ _ h => h) (Or.inr ⟨?gmt36, rfl⟩) (by assumption) ?rmt36
          case gmt36 => rfl
          try simp only [Act.put, List.setIfInBounds_toArray, List.set_cons_zero, List.set_cons_succ]
          refine' wpAnyH_take (i := 37) (oi := { dst := some 94, op := Op.load 3 (Operand.tmp 93), type := 3, pos := "law.go:90", after := #[{ on := 36, ground := Ground.data }, { on := 26, ground := Ground.guard }], guard := some (26, true) }) (v := undef) rfl (by kernel_rfl) (by kernel_rfl) (by kernel_rfl) (fun _ _ _ h => h) (Or.inr ⟨?gmt37, rfl⟩) (by assumption) ?rmt37
          case gmt37 => rfl
          try simp only [Act.put, List.setIfInBounds_toArray, List.set_cons_zero, List.set_cons_succ]
          refine' wpAnyH_take (i := 38) (oi := { dst := some 95, op := Op.binOp BinOp.leq 3 (Operand.tmp 88) (Operand.tmp 94) 3, type := 4, pos := "law.go:90", after := #[{ on := 31, ground := Ground.data }, { on := 37, ground := Ground.data }, { on := 26, ground := Ground.guard }], guard := some (26, true) }) (v := undef) rfl (by kernel_rfl) (by kernel_rfl) (by kernel_rfl) (fun _ _ _ h => h) (Or.inr ⟨?gmt38, rfl⟩) (by assumption) ?rmt38
          case gmt38 => rfl
          try simp only [Act.put, List.setIfInBounds_toArray, List.set_cons_zero, List.set_cons_succ]
          refine' wpAnyH_take (i := 39) (oi := { dst := some 96, op := Op.move (Operand.tmp 95), type := 4, pos := "law.go:90", after := #[{ on := 38, ground := Ground.data }, { on := 26, ground := Ground.chain }, { on := 26, ground := Ground.guard }], guard := some (26, true) }) (v := undef) rfl (by kernel_rfl) (by kernel_rfl) (by kernel_rfl) (fun _ _ _ h => h) (Or.inr ⟨?gmt39, rfl⟩) (by assumption) ?rmt39
          case gmt39 => rfl
          try simp only [Act.put, List.setIfInBounds_toArray, List.set_cons_zero, List.set_cons_succ]
          refine' wpAnyH_take (i := 40) (oi := { dst := some 97, op := Op.move (Operand.tmp 5), type := 46, pos := "law.go:90", after := #[{ on := 39, ground := Ground.guard }], guard := some (39, false) }) (v := undef) rfl (by kernel_rfl) (by kernel_rfl) (by kernel_rfl) (fun _ _ _ h => h) (Or.inr ⟨?gmt40, rfl⟩) (by assumption) ?rmt40
          case gmt40 => rfl
          try simp only [Act.put, List.setIfInBounds_toArray, List.set_cons_zero, List.set_cons_succ]
          refine' wpAnyH_take (i := 41) (oi := { dst := some 98, op := Op.move (Operand.tmp 10), type := 3, pos := "law.go:90", after := #[{ on := 39, ground := Ground.guard }], guard := some (39, false) }) (v := undef) rfl (by kernel_rfl) (by kernel_rfl) (by kernel_rfl) (fun _ _ _ h => h) (Or.inr ⟨?gmt41, rfl⟩) (by assumption) ?rmt41
          case gmt41 => rfl
          try simp only [Act.put, List.setIfInBounds_toArray, List.set_cons_zero, List.set_cons_succ]
          refine' wpAnyH_take (i := 42) (oi := { dst := some 99, op := Op.indexAddr 46 (Operand.tmp 97) (Operand.tmp 98), type := 0, pos := "law.go:90", after := #[{ on := 40, ground := Ground.data }, { on := 41, ground := Ground.data }, { on := 39, ground := Ground.guard }], guard := some (39, false) }) (v := undef) rfl (by kernel_rfl) (by kernel_rfl) (by kernel_rfl) (fun _ _ _ h => h) (Or.inr ⟨?gmt42, rfl⟩) (by assumption) ?rmt42
          case gmt42 => rfl
          try simp only [Act.put, List.setIfInBounds_toArray, List.set_cons_zero, List.set_cons_succ]
          refine' wpAnyH_take (i := 43) (oi := { dst := some 100, op := Op.fieldAddr 56 (Operand.tmp 99) 0, type := 0, pos := "law.go:90", after := #[{ on := 42, ground := Ground.data }, { on := 39, ground := Ground.guard }], guard := some (39, false) }) (v := undef) rfl (by kernel_rfl) (by kernel_rfl) (by kernel_rfl) (fun _ _ _ h => h) (Or.inr ⟨?gmt43, rfl⟩) (by assumption) ?rmt43
          case gmt43 => rfl
          try simp only [Act.put, List.setIfInBounds_toArray, List.set_cons_zero, List.set_cons_succ]
          refine' wpAnyH_take (i := 44) (oi := { dst := some 101, op := Op.load 3 (Operand.tmp 100), type := 3, pos := "law.go:90", after := #[{ on := 43, ground := Ground.data }, { on := 39, ground := Ground.guard }], guard := some (39, false) }) (v := undef) rfl (by kernel_rfl) (by kernel_rfl) (by kernel_rfl) (fun _ _ _ h => h) (Or.inr ⟨?gmt44, rfl⟩) (by assumption) ?rmt44
          case gmt44 => rfl
          try simp only [Act.put, List.setIfInBounds_toArray, List.set_cons_zero, List.set_cons_succ]
          refine' wpAnyH_take (i := 45) (oi := { dst := some 102, op := Op.move (Operand.tmp 5), type := 46, pos := "law.go:90", after := #[{ on := 39, ground := Ground.guard }], guard := some (39, false) }) (v := undef) rfl (by kernel_rfl) (by kernel_rfl) (by kernel_rfl) (fun _ _ _ h => h) (Or.inr ⟨?gmt45, rfl⟩) (by assumption) ?rmt45
          case gmt45 => rfl
          try simp only [Act.put, List.setIfInBounds_toArray, List.set_cons_zero, List.set_cons_succ]
          refine' wpAnyH_take (i := 46) (oi := { dst := some 103, op := Op.move (Operand.tmp 10), type := 3, pos := "law.go:90", after := #[{ on := 39, ground := Ground.guard }], guard := some (39, false) }) (v := undef) rfl (by kernel_rfl) (by kernel_rfl) (by kernel_rfl) (fun _ _ _ h => h) (Or.inr ⟨?gmt46, rfl⟩) (by assumption) ?rmt46
          case gmt46 => rfl
          try simp only [Act.put, List.setIfInBounds_toArray, List.set_cons_zero, List.set_cons_succ]
          refine' wpAnyH_take (i := 47) (oi := { dst := some 104, op := Op.binOp BinOp.sub 3 (Operand.tmp 103) (Operand.const (Value.int IntKind.i64 1)) 3, type := 3, pos := "law.go:90", after := #[{ on := 46, ground := Ground.data }, { on := 39, ground := Ground.guard }], guard := some (39, false) }) (v := undef) rfl (by kernel_rfl) (by kernel_rfl) (by kernel_rfl) (fun _ _ _ h => h) (Or.inr ⟨?gmt47, rfl⟩) (by assumption) ?rmt47
          case gmt47 => rfl
          try simp only [Act.put, List.setIfInBounds_toArray, List.set_cons_zero, List.set_cons_succ]
          refine' wpAnyH_take (i := 48) (oi := { dst := some 105, op := Op.indexAddr 46 (Operand.tmp 102) (Operand.tmp 104), type := 0, pos := "law.go:90", after := #[{ on := 45, ground := Ground.data }, { on := 47, ground := Ground.data }, { on := 39, ground := Ground.guard }], guard := some (39, false) }) (v := undef) rfl (by kernel_rfl) (by kernel_rfl) (by kernel_rfl) (fun _ _ _ h => h) (Or.inr ⟨?gmt48, rfl⟩) (by assumption) ?rmt48
          case gmt48 => rfl
          try simp only [Act.put, List.setIfInBounds_toArray, List.set_cons_zero, List.set_cons_succ]
          refine' wpAnyH_take (i := 49) (oi := { dst := some 106, op := Op.fieldAddr 56 (Operand.tmp 105) 0, type := 0, pos := "law.go:90", after := #[{ on := 48, ground := Ground.data }, { on := 39, ground := Ground.guard }], guard := some (39, false) }) (v := undef) rfl (by kernel_rfl) (by kernel_rfl) (by kernel_rfl) (fun _ _ _ h => h) (Or.inr ⟨?gmt49, rfl⟩) (by assumption) ?rmt49
          case gmt49 => rfl
          try simp only [Act.put, List.setIfInBounds_toArray, List.set_cons_zero, List.set_cons_succ]
          refine' wpAnyH_take (i := 50) (oi := { dst := some 107, op := Op.load 3 (Operand.tmp 106), type := 3, pos := "law.go:90", after := #[{ on := 49, ground := Ground.data }, { on := 39, ground := Ground.guard }], guard := some (39, false) }) (v := undef) rfl (by kernel_rfl) (by kernel_rfl) (by kernel_rfl) (fun _ _ _ h => h) (Or.inr ⟨?gmt50, rfl⟩) (by assumption) ?rmt50
          case gmt50 => rfl
          try simp only [Act.put, List.setIfInBounds_toArray, List.set_cons_zero, List.set_cons_succ]
          refine' wpAnyH_take (i := 51) (oi := { dst := some 108, op := Op.binOp BinOp.lss 3 (Operand.tmp 101) (Operand.tmp 107) 3, type := 4, pos := "law.go:90", after := #[{ on := 44, ground := Ground.data }, { on := 50, ground := Ground.data }, { on := 39, ground := Ground.guard }], guard := some (39, false) }) (v := undef) rfl (by kernel_rfl) (by kernel_rfl) (by kernel_rfl) (fun _ _ _ h => h) (Or.inr ⟨?gmt51, rfl⟩) (by assumption) ?rmt51
          case gmt51 => rfl
          try simp only [Act.put, List.setIfInBounds_toArray, List.set_cons_zero, List.set_cons_succ]
          refine' wpAnyH_take (i := 52) (oi := { dst := some 109, op := Op.pick (Operand.tmp 96) (Operand.const (Value.bool true)) (Operand.tmp 108), type := 4, pos := "law.go:90", after := #[{ on := 39, ground := Ground.data }, { on := 51, ground := Ground.data }, { on := 26, ground := Ground.guard }], guard := some (26, true) }) (v := undef) rfl (by kernel_rfl) (by kernel_rfl) (by kernel_rfl) (fun _ _ _ h => h) (Or.inr ⟨?gmt52, rfl⟩) (by assumption) ?rmt52
          case gmt52 => rfl
          try simp only [Act.put, List.setIfInBounds_toArray, List.set_cons_zero, List.set_cons_succ]
          refine' wpAnyH_take (i := 53) (oi := { dst := some 110, op := Op.pick (Operand.tmp 83) (Operand.tmp 109) (Operand.const (Value.bool false)), type := 4, pos := "law.go:90", after := #[{ on := 26, ground := Ground.data }, { on := 52, ground := Ground.data }, { on := 23, ground := Ground.guard }], guard := some (23, false) }) (v := ?vmt53) rfl (by kernel_rfl) (by kernel_rfl) (by kernel_rfl) (fun _ _ _ h => h) (Or.inl ⟨?gmt53, ?ymt53⟩) (by assumption) ?rmt53
          case gmt53 => rfl
          case ymt53 => (intro w hSw; (try dsimp only at hSw); go_simp; all_goals (with_reducible rfl))
          try simp only [Act.put, List.setIfInBounds_toArray, List.set_cons_zero, List.set_cons_succ]
          refine' wpAnyH_take (i := 54) (oi := { dst := some 111, op := Op.pick (Operand.tmp 80) (Operand.const (Value.bool true)) (Operand.tmp 110), type := 4, pos := "law.go:90", after := #[{ on := 23, ground := Ground.data }, { on := 53, ground := Ground.data }], guard := none }) (v := ?vmt54) rfl (by kernel_rfl) (by kernel_rfl) (by kernel_rfl) (fun _ _ _ h => h) (Or.inl ⟨?gmt54, ?ymt54⟩) (by assumption) ?rmt54
          case gmt54 => rfl
          case ymt54 => (intro w hSw; (try dsimp only at hSw); go_simp; all_goals (with_reducible rfl))
          try simp only [Act.put, List.setIfInBounds_toArray, List.set_cons_zero, List.set_cons_succ]
          refine wpAnyH_done (by kernel_rfl) ?_ _
          go_wp2_with fail
          go_round
          case rel => exact ⟨0 + 1, by omega, by go_num, HC.out.below hHeld.2.2, HB.out.trans (hHeld.2.2.mono HB.out.size)⟩
          case measure => simp [intOf]
        · obtain ⟨j, rfl⟩ : ∃ j, i = j + 1 := ⟨i - 1, by omega⟩
          obtain ⟨⟨Kp, Dp⟩, hP⟩ : ∃ x, xs[j]? = some x := ⟨xs[j]'(by rw [HE.out]; omega), by simp⟩
          obtain ⟨r1, r2⟩ := R.out j _ _ hP hK
          obtain ⟨p0, p1⟩ := hc j _ hP
          simp only at r1 r2 p0 p1
          have e' : ((j + 1 : Nat) : Int) = (j : Int) + 1 := by omega
          rw [e']
          clear e'
          have x1 : (0 : Int) ≤ (j : Int) + 1 := by omega
          have x2 : (j : Int) + 1 < 13 := by omega
          have x3 : (j : Int) < 13 := by omega
          have x4 : (0 : Int) < (j : Int) + 1 := by omega
          have x5 : IntKind.i64.wrap (j : Int) = (j : Int) := IntWalk.i64_in _ ⟨by omega, by omega⟩
          have g1 : decide (D ≤ Dp) = false := by simp; omega
          have g2 : decide (K < Kp) = false := by simp; omega
          clear hc hB hK hP
          go_wp2_with fail
          refine wp_region_held_drew (S := fun w' => w'.cell? ⟨g, (j + 1) * 2, none⟩ = some (.int .i64 K) ∧ w'.cell? ⟨g, (j + 1) * 2 + 1, none⟩ = some (.int .i64 D) ∧ w'.cell? ⟨g, j * 2, none⟩ = some (.int .i64 Kp) ∧ w'.cell? ⟨g, j * 2 + 1, none⟩ = some (.int .i64 Dp) ∧ Below wr.heap.size wr w') (by kernel_rfl) ⟨c0, c1, p0, p1, (Below.refl _ _).drew⟩ (fun hHeld => ?_)
          refine' wpAnyH_take (i := 0) (oi := { dst := some 57, op := Op.move (Operand.tmp 5), type := 46, pos := "law.go:90", after := #[], guard := none }) (v := ?vnt0) rfl (by kernel_rfl) (by kernel_rfl) (by kernel_rfl) (fun _ _ _ h => h) (Or.inl ⟨?gnt0, ?ynt0⟩) (by assumption) ?rnt0
          case gnt0 => rfl
          case ynt0 => (intro w hSw; (try dsimp only at hSw); go_simp; all_goals (with_reducible rfl))
          try simp only [Act.put, List.setIfInBounds_toArray, List.set_cons_zero, List.set_cons_succ]
          refine' wpAnyH_take (i := 1) (oi := { dst := some 58, op := Op.move (Operand.tmp 10), type := 3, pos := "law.go:90", after := #[], guard := none }) (v := ?vnt1) rfl (by kernel_rfl) (by kernel_rfl) (by kernel_rfl) (fun _ _ _ h => h) (Or.inl ⟨?gnt1, ?ynt1⟩) (by assumption) ?rnt1
          case gnt1 => rfl
          case ynt1 => (intro w hSw; (try dsimp only at hSw); go_simp; all_goals (with_reducible rfl))
          try simp only [Act.put, List.setIfInBounds_toArray, List.set_cons_zero, List.set_cons_succ]
          refine' wpAnyH_take (i := 2) (oi := { dst := some 59, op := Op.indexAddr 46 (Operand.tmp 57) (Operand.tmp 58), type := 0, pos := "law.go:90", after := #[{ on := 0, ground := Ground.data }, { on := 1, ground := Ground.data }], guard := none }) (v := ?vnt2) rfl (by kernel_rfl) (by kernel_rfl) (by kernel_rfl) (fun _ _ _ h => h) (Or.inl ⟨?gnt2, ?ynt2⟩) (by assumption) ?rnt2
          case gnt2 => rfl
          case ynt2 => (intro w hSw; (try dsimp only at hSw); go_simp; all_goals (with_reducible rfl))
          try simp only [Act.put, List.setIfInBounds_toArray, List.set_cons_zero, List.set_cons_succ]
          refine' wpAnyH_take (i := 3) (oi := { dst := some 60, op := Op.fieldAddr 56 (Operand.tmp 59) 1, type := 0, pos := "law.go:90", after := #[{ on := 2, ground := Ground.data }], guard := none }) (v := ?vnt3) rfl (by kernel_rfl) (by kernel_rfl) (by kernel_rfl) (fun _ _ _ h => h) (Or.inl ⟨?gnt3, ?ynt3⟩) (by assumption) ?rnt3
          case gnt3 => rfl
          case ynt3 => (intro w hSw; (try dsimp only at hSw); go_simp; all_goals (with_reducible rfl))
          try simp only [Act.put, List.setIfInBounds_toArray, List.set_cons_zero, List.set_cons_succ]
          refine' wpAnyH_take (i := 4) (oi := { dst := some 61, op := Op.load 3 (Operand.tmp 60), type := 3, pos := "law.go:90", after := #[{ on := 3, ground := Ground.data }], guard := none }) (v := ?vnt4) rfl (by kernel_rfl) (by kernel_rfl) (by kernel_rfl) (fun _ _ _ h => h) (Or.inl ⟨?gnt4, ?ynt4⟩) (by assumption) ?rnt4
          case gnt4 => rfl
          case ynt4 => (intro w hSw; (try dsimp only at hSw); go_simp; all_goals (with_reducible rfl))
          try simp only [Act.put, List.setIfInBounds_toArray, List.set_cons_zero, List.set_cons_succ]
          refine' wpAnyH_take (i := 5) (oi := { dst := some 62, op := Op.move (Operand.tmp 1), type := 4, pos := "law.go:90", after := #[], guard := none }) (v := ?vnt5) rfl (by kernel_rfl) (by kernel_rfl) (by kernel_rfl) (fun _ _ _ h => h) (Or.inl ⟨?gnt5, ?ynt5⟩) (by assumption) ?rnt5
          case gnt5 => rfl
          case ynt5 => (intro w hSw; (try dsimp only at hSw); go_simp; all_goals (with_reducible rfl))
          try simp only [Act.put, List.setIfInBounds_toArray, List.set_cons_zero, List.set_cons_succ]
          refine' wpAnyH_take (i := 7) (oi := { dst := some 64, op := Op.move (Operand.tmp 5), type := 46, pos := "law.go:90", after := #[], guard := none }) (v := ?vnt7) rfl (by kernel_rfl) (by kernel_rfl) (by kernel_rfl) (fun _ _ _ h => h) (Or.inl ⟨?gnt7, ?ynt7⟩) (by assumption) ?rnt7
          case gnt7 => rfl
          case ynt7 => (intro w hSw; (try dsimp only at hSw); go_simp; all_goals (with_reducible rfl))
          try simp only [Act.put, List.setIfInBounds_toArray, List.set_cons_zero, List.set_cons_succ]
          refine' wpAnyH_take (i := 8) (oi := { dst := some 65, op := Op.move (Operand.tmp 10), type := 3, pos := "law.go:90", after := #[], guard := none }) (v := ?vnt8) rfl (by kernel_rfl) (by kernel_rfl) (by kernel_rfl) (fun _ _ _ h => h) (Or.inl ⟨?gnt8, ?ynt8⟩) (by assumption) ?rnt8
          case gnt8 => rfl
          case ynt8 => (intro w hSw; (try dsimp only at hSw); go_simp; all_goals (with_reducible rfl))
          try simp only [Act.put, List.setIfInBounds_toArray, List.set_cons_zero, List.set_cons_succ]
          refine' wpAnyH_take (i := 9) (oi := { dst := some 66, op := Op.indexAddr 46 (Operand.tmp 64) (Operand.tmp 65), type := 0, pos := "law.go:90", after := #[{ on := 7, ground := Ground.data }, { on := 8, ground := Ground.data }], guard := none }) (v := ?vnt9) rfl (by kernel_rfl) (by kernel_rfl) (by kernel_rfl) (fun _ _ _ h => h) (Or.inl ⟨?gnt9, ?ynt9⟩) (by assumption) ?rnt9
          case gnt9 => rfl
          case ynt9 => (intro w hSw; (try dsimp only at hSw); go_simp; all_goals (with_reducible rfl))
          try simp only [Act.put, List.setIfInBounds_toArray, List.set_cons_zero, List.set_cons_succ]
          refine' wpAnyH_take (i := 10) (oi := { dst := some 67, op := Op.fieldAddr 56 (Operand.tmp 66) 0, type := 0, pos := "law.go:90", after := #[{ on := 9, ground := Ground.data }], guard := none }) (v := ?vnt10) rfl (by kernel_rfl) (by kernel_rfl) (by kernel_rfl) (fun _ _ _ h => h) (Or.inl ⟨?gnt10, ?ynt10⟩) (by assumption) ?rnt10
          case gnt10 => rfl
          case ynt10 => (intro w hSw; (try dsimp only at hSw); go_simp; all_goals (with_reducible rfl))
          try simp only [Act.put, List.setIfInBounds_toArray, List.set_cons_zero, List.set_cons_succ]
          refine' wpAnyH_take (i := 11) (oi := { dst := some 68, op := Op.load 3 (Operand.tmp 67), type := 3, pos := "law.go:90", after := #[{ on := 10, ground := Ground.data }], guard := none }) (v := ?vnt11) rfl (by kernel_rfl) (by kernel_rfl) (by kernel_rfl) (fun _ _ _ h => h) (Or.inl ⟨?gnt11, ?ynt11⟩) (by assumption) ?rnt11
          case gnt11 => rfl
          case ynt11 => (intro w hSw; (try dsimp only at hSw); go_simp; all_goals (with_reducible rfl))
          try simp only [Act.put, List.setIfInBounds_toArray, List.set_cons_zero, List.set_cons_succ]
          refine wpAnyH_ready (rs := [6]) (by kernel_rfl) (by simp) ?_
          refine' AllReadyH.cons (o := { dst := some 63, op := Op.call { callee := Callee.value (Operand.func 48), args := #[Operand.tmp 61, Operand.tmp 62], argTypes := #[3, 4] }, type := 3, pos := "law.go:90", after := #[{ on := 4, ground := Ground.data }, { on := 5, ground := Ground.data }], guard := none }) rfl (fun KK hKK => ?snt6) AllReadyH.nil
          go_simp
          refine (fKind_any _ K true _ hk.out).mono ?_; rintro e w4 ⟨rfl, hb⟩
          refine' hKK.out _ _ ?hnt6 (fun hHeld => ?rnt6)
          case hnt6 => exact keepF4 hHeld hb (Nat.le_refl _)
          clear hKK KK
          try simp only [Act.put, List.setIfInBounds_toArray, List.set_cons_zero, List.set_cons_succ]
          refine' wpAnyH_take (i := 12) (oi := { dst := some 69, op := Op.binOp BinOp.neq 3 (Operand.tmp 63) (Operand.tmp 68) 3, type := 4, pos := "law.go:90", after := #[{ on := 6, ground := Ground.data }, { on := 11, ground := Ground.data }], guard := none }) (v := ?vnt12) rfl (by kernel_rfl) (by kernel_rfl) (by kernel_rfl) (fun _ _ _ h => h) (Or.inl ⟨?gnt12, ?ynt12⟩) (by assumption) ?rnt12
          case gnt12 => rfl
          case ynt12 => (intro w hSw; (try dsimp only at hSw); go_simp; all_goals (with_reducible rfl))
          try simp only [Act.put, List.setIfInBounds_toArray, List.set_cons_zero, List.set_cons_succ]
          refine' wpAnyH_take (i := 13) (oi := { dst := some 70, op := Op.move (Operand.tmp 69), type := 4, pos := "law.go:90", after := #[{ on := 12, ground := Ground.data }, { on := 6, ground := Ground.chain }], guard := none }) (v := ?vnt13) rfl (by kernel_rfl) (by kernel_rfl) (by kernel_rfl) (fun _ _ _ h => h) (Or.inl ⟨?gnt13, ?ynt13⟩) (by assumption) ?rnt13
          case gnt13 => rfl
          case ynt13 => (intro w hSw; (try dsimp only at hSw); go_simp; all_goals (with_reducible rfl))
          try simp only [Act.put, List.setIfInBounds_toArray, List.set_cons_zero, List.set_cons_succ]
          refine' wpAnyH_take (i := 14) (oi := { dst := some 71, op := Op.move (Operand.tmp 5), type := 46, pos := "law.go:90", after := #[{ on := 13, ground := Ground.guard }], guard := some (13, false) }) (v := ?vnt14) rfl (by kernel_rfl) (by kernel_rfl) (by kernel_rfl) (fun _ _ _ h => h) (Or.inl ⟨?gnt14, ?ynt14⟩) (by assumption) ?rnt14
          case gnt14 => rfl
          case ynt14 => (intro w hSw; (try dsimp only at hSw); go_simp; all_goals (with_reducible rfl))
          try simp only [Act.put, List.setIfInBounds_toArray, List.set_cons_zero, List.set_cons_succ]
          refine' wpAnyH_take (i := 15) (oi := { dst := some 72, op := Op.move (Operand.tmp 10), type := 3, pos := "law.go:90", after := #[{ on := 13, ground := Ground.guard }], guard := some (13, false) }) (v := ?vnt15) rfl (by kernel_rfl) (by kernel_rfl) (by kernel_rfl) (fun _ _ _ h => h) (Or.inl ⟨?gnt15, ?ynt15⟩) (by assumption) ?rnt15
          case gnt15 => rfl
          case ynt15 => (intro w hSw; (try dsimp only at hSw); go_simp; all_goals (with_reducible rfl))
          try simp only [Act.put, List.setIfInBounds_toArray, List.set_cons_zero, List.set_cons_succ]
          refine' wpAnyH_take (i := 16) (oi := { dst := some 73, op := Op.indexAddr 46 (Operand.tmp 71) (Operand.tmp 72), type := 0, pos := "law.go:90", after := #[{ on := 14, ground := Ground.data }, { on := 15, ground := Ground.data }, { on := 13, ground := Ground.guard }], guard := some (13, false) }) (v := ?vnt16) rfl (by kernel_rfl) (by kernel_rfl) (by kernel_rfl) (fun _ _ _ h => h) (Or.inl ⟨?gnt16, ?ynt16⟩) (by assumption) ?rnt16
          case gnt16 => rfl
          case ynt16 => (intro w hSw; (try dsimp only at hSw); go_simp; all_goals (with_reducible rfl))
          try simp only [Act.put, List.setIfInBounds_toArray, List.set_cons_zero, List.set_cons_succ]
          refine' wpAnyH_take (i := 17) (oi := { dst := some 74, op := Op.fieldAddr 56 (Operand.tmp 73) 1, type := 0, pos := "law.go:90", after := #[{ on := 16, ground := Ground.data }, { on := 13, ground := Ground.guard }], guard := some (13, false) }) (v := ?vnt17) rfl (by kernel_rfl) (by kernel_rfl) (by kernel_rfl) (fun _ _ _ h => h) (Or.inl ⟨?gnt17, ?ynt17⟩) (by assumption) ?rnt17
          case gnt17 => rfl
          case ynt17 => (intro w hSw; (try dsimp only at hSw); go_simp; all_goals (with_reducible rfl))
          try simp only [Act.put, List.setIfInBounds_toArray, List.set_cons_zero, List.set_cons_succ]
          refine' wpAnyH_take (i := 18) (oi := { dst := some 75, op := Op.load 3 (Operand.tmp 74), type := 3, pos := "law.go:90", after := #[{ on := 17, ground := Ground.data }, { on := 13, ground := Ground.guard }], guard := some (13, false) }) (v := ?vnt18) rfl (by kernel_rfl) (by kernel_rfl) (by kernel_rfl) (fun _ _ _ h => h) (Or.inl ⟨?gnt18, ?ynt18⟩) (by assumption) ?rnt18
          case gnt18 => rfl
          case ynt18 => (intro w hSw; (try dsimp only at hSw); go_simp; all_goals (with_reducible rfl))
          try simp only [Act.put, List.setIfInBounds_toArray, List.set_cons_zero, List.set_cons_succ]
          refine' wpAnyH_take (i := 19) (oi := { dst := some 76, op := Op.move (Operand.tmp 1), type := 4, pos := "law.go:90", after := #[{ on := 13, ground := Ground.guard }], guard := some (13, false) }) (v := ?vnt19) rfl (by kernel_rfl) (by kernel_rfl) (by kernel_rfl) (fun _ _ _ h => h) (Or.inl ⟨?gnt19, ?ynt19⟩) (by assumption) ?rnt19
          case gnt19 => rfl
          case ynt19 => (intro w hSw; (try dsimp only at hSw); go_simp; all_goals (with_reducible rfl))
          try simp only [Act.put, List.setIfInBounds_toArray, List.set_cons_zero, List.set_cons_succ]
          refine wpAnyH_ready (rs := [20]) (by kernel_rfl) (by simp) ?_
          refine' AllReadyH.cons (o := { dst := some 77, op := Op.call { callee := Callee.value (Operand.func 50), args := #[Operand.tmp 75, Operand.tmp 76], argTypes := #[3, 4] }, type := 4, pos := "law.go:90", after := #[{ on := 18, ground := Ground.data }, { on := 19, ground := Ground.data }, { on := 13, ground := Ground.chain }, { on := 13, ground := Ground.guard }], guard := some (13, false) }) rfl (fun KK hKK => ?snt20) AllReadyH.nil
          go_simp
          refine (fRest_yes _ true _ hI hr.out).mono ?_; rintro e w5 ⟨rfl, hb⟩
          refine' hKK.out _ _ ?hnt20 (fun hHeld => ?rnt20)
          case hnt20 => exact keepF4 hHeld hb (Nat.le_refl _)
          clear hKK KK
          try simp only [Act.put, List.setIfInBounds_toArray, List.set_cons_zero, List.set_cons_succ]
          refine' wpAnyH_take (i := 21) (oi := { dst := some 78, op := Op.unOp UnOp.not 4 (Operand.tmp 77), type := 4, pos := "law.go:90", after := #[{ on := 20, ground := Ground.data }, { on := 13, ground := Ground.guard }], guard := some (13, false) }) (v := ?vnt21) rfl (by kernel_rfl) (by kernel_rfl) (by kernel_rfl) (fun _ _ _ h => h) (Or.inl ⟨?gnt21, ?ynt21⟩) (by assumption) ?rnt21
          case gnt21 => rfl
          case ynt21 => (intro w hSw; (try dsimp only at hSw); go_simp; all_goals (with_reducible rfl))
          try simp only [Act.put, List.setIfInBounds_toArray, List.set_cons_zero, List.set_cons_succ]
          refine' wpAnyH_take (i := 22) (oi := { dst := some 79, op := Op.pick (Operand.tmp 70) (Operand.const (Value.bool true)) (Operand.tmp 78), type := 4, pos := "law.go:90", after := #[{ on := 13, ground := Ground.data }, { on := 21, ground := Ground.data }], guard := none }) (v := ?vnt22) rfl (by kernel_rfl) (by kernel_rfl) (by kernel_rfl) (fun _ _ _ h => h) (Or.inl ⟨?gnt22, ?ynt22⟩) (by assumption) ?rnt22
          case gnt22 => rfl
          case ynt22 => (intro w hSw; (try dsimp only at hSw); go_simp; all_goals (with_reducible rfl))
          try simp only [Act.put, List.setIfInBounds_toArray, List.set_cons_zero, List.set_cons_succ]
          refine' wpAnyH_take (i := 23) (oi := { dst := some 80, op := Op.move (Operand.tmp 79), type := 4, pos := "law.go:90", after := #[{ on := 22, ground := Ground.data }, { on := 20, ground := Ground.chain }], guard := none }) (v := ?vnt23) rfl (by kernel_rfl) (by kernel_rfl) (by kernel_rfl) (fun _ _ _ h => h) (Or.inl ⟨?gnt23, ?ynt23⟩) (by assumption) ?rnt23
          case gnt23 => rfl
          case ynt23 => (intro w hSw; (try dsimp only at hSw); go_simp; all_goals (with_reducible rfl))
          try simp only [Act.put, List.setIfInBounds_toArray, List.set_cons_zero, List.set_cons_succ]
          refine' wpAnyH_take (i := 24) (oi := { dst := some 81, op := Op.move (Operand.tmp 10), type := 3, pos := "law.go:90", after := #[{ on := 23, ground := Ground.guard }], guard := some (23, false) }) (v := ?vnt24) rfl (by kernel_rfl) (by kernel_rfl) (by kernel_rfl) (fun _ _ _ h => h) (Or.inl ⟨?gnt24, ?ynt24⟩) (by assumption) ?rnt24
          case gnt24 => rfl
          case ynt24 => (intro w hSw; (try dsimp only at hSw); go_simp; all_goals (with_reducible rfl))
          try simp only [Act.put, List.setIfInBounds_toArray, List.set_cons_zero, List.set_cons_succ]
          refine' wpAnyH_take (i := 25) (oi := { dst := some 82, op := Op.binOp BinOp.gtr 3 (Operand.tmp 81) (Operand.const (Value.int IntKind.i64 0)) 3, type := 4, pos := "law.go:90", after := #[{ on := 24, ground := Ground.data }, { on := 23, ground := Ground.guard }], guard := some (23, false) }) (v := ?vnt25) rfl (by kernel_rfl) (by kernel_rfl) (by kernel_rfl) (fun _ _ _ h => h) (Or.inl ⟨?gnt25, ?ynt25⟩) (by assumption) ?rnt25
          case gnt25 => rfl
          case ynt25 => (intro w hSw; (try dsimp only at hSw); go_simp; all_goals (with_reducible rfl))
          try simp only [Act.put, List.setIfInBounds_toArray, List.set_cons_zero, List.set_cons_succ]
          refine' wpAnyH_take (i := 26) (oi := { dst := some 83, op := Op.move (Operand.tmp 82), type := 4, pos := "law.go:90", after := #[{ on := 25, ground := Ground.data }, { on := 23, ground := Ground.chain }, { on := 23, ground := Ground.guard }], guard := some (23, false) }) (v := ?vnt26) rfl (by kernel_rfl) (by kernel_rfl) (by kernel_rfl) (fun _ _ _ h => h) (Or.inl ⟨?gnt26, ?ynt26⟩) (by assumption) ?rnt26
          case gnt26 => rfl
          case ynt26 => (intro w hSw; (try dsimp only at hSw); go_simp; all_goals (with_reducible rfl))
          try simp only [Act.put, List.setIfInBounds_toArray, List.set_cons_zero, List.set_cons_succ]
          refine' wpAnyH_take (i := 27) (oi := { dst := some 84, op := Op.move (Operand.tmp 5), type := 46, pos := "law.go:90", after := #[{ on := 26, ground := Ground.guard }], guard := some (26, true) }) (v := ?vnt27) rfl (by kernel_rfl) (by kernel_rfl) (by kernel_rfl) (fun _ _ _ h => h) (Or.inl ⟨?gnt27, ?ynt27⟩) (by assumption) ?rnt27
          case gnt27 => rfl
          case ynt27 => (intro w hSw; (try dsimp only at hSw); go_simp; all_goals (with_reducible rfl))
          try simp only [Act.put, List.setIfInBounds_toArray, List.set_cons_zero, List.set_cons_succ]
          refine' wpAnyH_take (i := 28) (oi := { dst := some 85, op := Op.move (Operand.tmp 10), type := 3, pos := "law.go:90", after := #[{ on := 26, ground := Ground.guard }], guard := some (26, true) }) (v := ?vnt28) rfl (by kernel_rfl) (by kernel_rfl) (by kernel_rfl) (fun _ _ _ h => h) (Or.inl ⟨?gnt28, ?ynt28⟩) (by assumption) ?rnt28
          case gnt28 => rfl
          case ynt28 => (intro w hSw; (try dsimp only at hSw); go_simp; all_goals (with_reducible rfl))
          try simp only [Act.put, List.setIfInBounds_toArray, List.set_cons_zero, List.set_cons_succ]
          refine' wpAnyH_take (i := 29) (oi := { dst := some 86, op := Op.indexAddr 46 (Operand.tmp 84) (Operand.tmp 85), type := 0, pos := "law.go:90", after := #[{ on := 27, ground := Ground.data }, { on := 28, ground := Ground.data }, { on := 26, ground := Ground.guard }], guard := some (26, true) }) (v := ?vnt29) rfl (by kernel_rfl) (by kernel_rfl) (by kernel_rfl) (fun _ _ _ h => h) (Or.inl ⟨?gnt29, ?ynt29⟩) (by assumption) ?rnt29
          case gnt29 => rfl
          case ynt29 => (intro w hSw; (try dsimp only at hSw); go_simp; all_goals (with_reducible rfl))
          try simp only [Act.put, List.setIfInBounds_toArray, List.set_cons_zero, List.set_cons_succ]
          refine' wpAnyH_take (i := 30) (oi := { dst := some 87, op := Op.fieldAddr 56 (Operand.tmp 86) 1, type := 0, pos := "law.go:90", after := #[{ on := 29, ground := Ground.data }, { on := 26, ground := Ground.guard }], guard := some (26, true) }) (v := ?vnt30) rfl (by kernel_rfl) (by kernel_rfl) (by kernel_rfl) (fun _ _ _ h => h) (Or.inl ⟨?gnt30, ?ynt30⟩) (by assumption) ?rnt30
          case gnt30 => rfl
          case ynt30 => (intro w hSw; (try dsimp only at hSw); go_simp; all_goals (with_reducible rfl))
          try simp only [Act.put, List.setIfInBounds_toArray, List.set_cons_zero, List.set_cons_succ]
          refine' wpAnyH_take (i := 31) (oi := { dst := some 88, op := Op.load 3 (Operand.tmp 87), type := 3, pos := "law.go:90", after := #[{ on := 30, ground := Ground.data }, { on := 26, ground := Ground.guard }], guard := some (26, true) }) (v := ?vnt31) rfl (by kernel_rfl) (by kernel_rfl) (by kernel_rfl) (fun _ _ _ h => h) (Or.inl ⟨?gnt31, ?ynt31⟩) (by assumption) ?rnt31
          case gnt31 => rfl
          case ynt31 => (intro w hSw; (try dsimp only at hSw); go_simp; all_goals (with_reducible rfl))
          try simp only [Act.put, List.setIfInBounds_toArray, List.set_cons_zero, List.set_cons_succ]
          refine' wpAnyH_take (i := 32) (oi := { dst := some 89, op := Op.move (Operand.tmp 5), type := 46, pos := "law.go:90", after := #[{ on := 26, ground := Ground.guard }], guard := some (26, true) }) (v := ?vnt32) rfl (by kernel_rfl) (by kernel_rfl) (by kernel_rfl) (fun _ _ _ h => h) (Or.inl ⟨?gnt32, ?ynt32⟩) (by assumption) ?rnt32
          case gnt32 => rfl
          case ynt32 => (intro w hSw; (try dsimp only at hSw); go_simp; all_goals (with_reducible rfl))
          try simp only [Act.put, List.setIfInBounds_toArray, List.set_cons_zero, List.set_cons_succ]
          refine' wpAnyH_take (i := 33) (oi := { dst := some 90, op := Op.move (Operand.tmp 10), type := 3, pos := "law.go:90", after := #[{ on := 26, ground := Ground.guard }], guard := some (26, true) }) (v := ?vnt33) rfl (by kernel_rfl) (by kernel_rfl) (by kernel_rfl) (fun _ _ _ h => h) (Or.inl ⟨?gnt33, ?ynt33⟩) (by assumption) ?rnt33
          case gnt33 => rfl
          case ynt33 => (intro w hSw; (try dsimp only at hSw); go_simp; all_goals (with_reducible rfl))
          try simp only [Act.put, List.setIfInBounds_toArray, List.set_cons_zero, List.set_cons_succ]
          refine' wpAnyH_take (i := 34) (oi := { dst := some 91, op := Op.binOp BinOp.sub 3 (Operand.tmp 90) (Operand.const (Value.int IntKind.i64 1)) 3, type := 3, pos := "law.go:90", after := #[{ on := 33, ground := Ground.data }, { on := 26, ground := Ground.guard }], guard := some (26, true) }) (v := ?vnt34) rfl (by kernel_rfl) (by kernel_rfl) (by kernel_rfl) (fun _ _ _ h => h) (Or.inl ⟨?gnt34, ?ynt34⟩) (by assumption) ?rnt34
          case gnt34 => rfl
          case ynt34 => (intro w hSw; (try dsimp only at hSw); go_simp; all_goals (with_reducible rfl))
          try simp only [Act.put, List.setIfInBounds_toArray, List.set_cons_zero, List.set_cons_succ]
          refine' wpAnyH_take (i := 35) (oi := { dst := some 92, op := Op.indexAddr 46 (Operand.tmp 89) (Operand.tmp 91), type := 0, pos := "law.go:90", after := #[{ on := 32, ground := Ground.data }, { on := 34, ground := Ground.data }, { on := 26, ground := Ground.guard }], guard := some (26, true) }) (v := ?vnt35) rfl (by kernel_rfl) (by kernel_rfl) (by kernel_rfl) (fun _ _ _ h => h) (Or.inl ⟨?gnt35, ?ynt35⟩) (by assumption) ?rnt35
          case gnt35 => rfl
          case ynt35 => (intro w hSw; (try dsimp only at hSw); go_simp; all_goals (with_reducible rfl))
          try simp only [Act.put, List.setIfInBounds_toArray, List.set_cons_zero, List.set_cons_succ]
          refine' wpAnyH_take (i := 36) (oi := { dst := some 93, op := Op.fieldAddr 56 (Operand.tmp 92) 1, type := 0, pos := "law.go:90", after := #[{ on := 35, ground := Ground.data }, { on := 26, ground := Ground.guard }], guard := some (26, true) }) (v := ?vnt36) rfl (by kernel_rfl) (by kernel_rfl) (by kernel_rfl) (fun _ _ _ h => h) (Or.inl ⟨?gnt36, ?ynt36⟩) (by assumption) ?rnt36
          case gnt36 => rfl
          case ynt36 => (intro w hSw; (try dsimp only at hSw); go_simp; all_goals (with_reducible rfl))
          try simp only [Act.put, List.setIfInBounds_toArray, List.set_cons_zero, List.set_cons_succ]
          refine' wpAnyH_take (i := 37) (oi := { dst := some 94, op := Op.load 3 (Operand.tmp 93), type := 3, pos := "law.go:90", after := #[{ on := 36, ground := Ground.data }, { on := 26, ground := Ground.guard }], guard := some (26, true) }) (v := ?vnt37) rfl (by kernel_rfl) (by kernel_rfl) (by kernel_rfl) (fun _ _ _ h => h) (Or.inl ⟨?gnt37, ?ynt37⟩) (by assumption) ?rnt37
          case gnt37 => rfl
          case ynt37 => (intro w hSw; (try dsimp only at hSw); go_simp; all_goals (with_reducible rfl))
          try simp only [Act.put, List.setIfInBounds_toArray, List.set_cons_zero, List.set_cons_succ]
          refine' wpAnyH_take (i := 38) (oi := { dst := some 95, op := Op.binOp BinOp.leq 3 (Operand.tmp 88) (Operand.tmp 94) 3, type := 4, pos := "law.go:90", after := #[{ on := 31, ground := Ground.data }, { on := 37, ground := Ground.data }, { on := 26, ground := Ground.guard }], guard := some (26, true) }) (v := ?vnt38) rfl (by kernel_rfl) (by kernel_rfl) (by kernel_rfl) (fun _ _ _ h => h) (Or.inl ⟨?gnt38, ?ynt38⟩) (by assumption) ?rnt38
          case gnt38 => rfl
          case ynt38 => (intro w hSw; (try dsimp only at hSw); go_simp; all_goals (with_reducible rfl))
          try simp only [Act.put, List.setIfInBounds_toArray, List.set_cons_zero, List.set_cons_succ]
          refine' wpAnyH_take (i := 39) (oi := { dst := some 96, op := Op.move (Operand.tmp 95), type := 4, pos := "law.go:90", after := #[{ on := 38, ground := Ground.data }, { on := 26, ground := Ground.chain }, { on := 26, ground := Ground.guard }], guard := some (26, true) }) (v := ?vnt39) rfl (by kernel_rfl) (by kernel_rfl) (by kernel_rfl) (fun _ _ _ h => h) (Or.inl ⟨?gnt39, ?ynt39⟩) (by assumption) ?rnt39
          case gnt39 => rfl
          case ynt39 => (intro w hSw; (try dsimp only at hSw); go_simp; all_goals (with_reducible rfl))
          try simp only [Act.put, List.setIfInBounds_toArray, List.set_cons_zero, List.set_cons_succ]
          refine' wpAnyH_take (i := 40) (oi := { dst := some 97, op := Op.move (Operand.tmp 5), type := 46, pos := "law.go:90", after := #[{ on := 39, ground := Ground.guard }], guard := some (39, false) }) (v := ?vnt40) rfl (by kernel_rfl) (by kernel_rfl) (by kernel_rfl) (fun _ _ _ h => h) (Or.inl ⟨?gnt40, ?ynt40⟩) (by assumption) ?rnt40
          case gnt40 => rfl
          case ynt40 => (intro w hSw; (try dsimp only at hSw); go_simp; all_goals (with_reducible rfl))
          try simp only [Act.put, List.setIfInBounds_toArray, List.set_cons_zero, List.set_cons_succ]
          refine' wpAnyH_take (i := 41) (oi := { dst := some 98, op := Op.move (Operand.tmp 10), type := 3, pos := "law.go:90", after := #[{ on := 39, ground := Ground.guard }], guard := some (39, false) }) (v := ?vnt41) rfl (by kernel_rfl) (by kernel_rfl) (by kernel_rfl) (fun _ _ _ h => h) (Or.inl ⟨?gnt41, ?ynt41⟩) (by assumption) ?rnt41
          case gnt41 => rfl
          case ynt41 => (intro w hSw; (try dsimp only at hSw); go_simp; all_goals (with_reducible rfl))
          try simp only [Act.put, List.setIfInBounds_toArray, List.set_cons_zero, List.set_cons_succ]
          refine' wpAnyH_take (i := 42) (oi := { dst := some 99, op := Op.indexAddr 46 (Operand.tmp 97) (Operand.tmp 98), type := 0, pos := "law.go:90", after := #[{ on := 40, ground := Ground.data }, { on := 41, ground := Ground.data }, { on := 39, ground := Ground.guard }], guard := some (39, false) }) (v := ?vnt42) rfl (by kernel_rfl) (by kernel_rfl) (by kernel_rfl) (fun _ _ _ h => h) (Or.inl ⟨?gnt42, ?ynt42⟩) (by assumption) ?rnt42
          case gnt42 => rfl
          case ynt42 => (intro w hSw; (try dsimp only at hSw); go_simp; all_goals (with_reducible rfl))
          try simp only [Act.put, List.setIfInBounds_toArray, List.set_cons_zero, List.set_cons_succ]
          refine' wpAnyH_take (i := 43) (oi := { dst := some 100, op := Op.fieldAddr 56 (Operand.tmp 99) 0, type := 0, pos := "law.go:90", after := #[{ on := 42, ground := Ground.data }, { on := 39, ground := Ground.guard }], guard := some (39, false) }) (v := ?vnt43) rfl (by kernel_rfl) (by kernel_rfl) (by kernel_rfl) (fun _ _ _ h => h) (Or.inl ⟨?gnt43, ?ynt43⟩) (by assumption) ?rnt43
          case gnt43 => rfl
          case ynt43 => (intro w hSw; (try dsimp only at hSw); go_simp; all_goals (with_reducible rfl))
          try simp only [Act.put, List.setIfInBounds_toArray, List.set_cons_zero, List.set_cons_succ]
          refine' wpAnyH_take (i := 44) (oi := { dst := some 101, op := Op.load 3 (Operand.tmp 100), type := 3, pos := "law.go:90", after := #[{ on := 43, ground := Ground.data }, { on := 39, ground := Ground.guard }], guard := some (39, false) }) (v := ?vnt44) rfl (by kernel_rfl) (by kernel_rfl) (by kernel_rfl) (fun _ _ _ h => h) (Or.inl ⟨?gnt44, ?ynt44⟩) (by assumption) ?rnt44
          case gnt44 => rfl
          case ynt44 => (intro w hSw; (try dsimp only at hSw); go_simp; all_goals (with_reducible rfl))
          try simp only [Act.put, List.setIfInBounds_toArray, List.set_cons_zero, List.set_cons_succ]
          refine' wpAnyH_take (i := 45) (oi := { dst := some 102, op := Op.move (Operand.tmp 5), type := 46, pos := "law.go:90", after := #[{ on := 39, ground := Ground.guard }], guard := some (39, false) }) (v := ?vnt45) rfl (by kernel_rfl) (by kernel_rfl) (by kernel_rfl) (fun _ _ _ h => h) (Or.inl ⟨?gnt45, ?ynt45⟩) (by assumption) ?rnt45
          case gnt45 => rfl
          case ynt45 => (intro w hSw; (try dsimp only at hSw); go_simp; all_goals (with_reducible rfl))
          try simp only [Act.put, List.setIfInBounds_toArray, List.set_cons_zero, List.set_cons_succ]
          refine' wpAnyH_take (i := 46) (oi := { dst := some 103, op := Op.move (Operand.tmp 10), type := 3, pos := "law.go:90", after := #[{ on := 39, ground := Ground.guard }], guard := some (39, false) }) (v := ?vnt46) rfl (by kernel_rfl) (by kernel_rfl) (by kernel_rfl) (fun _ _ _ h => h) (Or.inl ⟨?gnt46, ?ynt46⟩) (by assumption) ?rnt46
          case gnt46 => rfl
          case ynt46 => (intro w hSw; (try dsimp only at hSw); go_simp; all_goals (with_reducible rfl))
          try simp only [Act.put, List.setIfInBounds_toArray, List.set_cons_zero, List.set_cons_succ]
          refine' wpAnyH_take (i := 47) (oi := { dst := some 104, op := Op.binOp BinOp.sub 3 (Operand.tmp 103) (Operand.const (Value.int IntKind.i64 1)) 3, type := 3, pos := "law.go:90", after := #[{ on := 46, ground := Ground.data }, { on := 39, ground := Ground.guard }], guard := some (39, false) }) (v := ?vnt47) rfl (by kernel_rfl) (by kernel_rfl) (by kernel_rfl) (fun _ _ _ h => h) (Or.inl ⟨?gnt47, ?ynt47⟩) (by assumption) ?rnt47
          case gnt47 => rfl
          case ynt47 => (intro w hSw; (try dsimp only at hSw); go_simp; all_goals (with_reducible rfl))
          try simp only [Act.put, List.setIfInBounds_toArray, List.set_cons_zero, List.set_cons_succ]
          refine' wpAnyH_take (i := 48) (oi := { dst := some 105, op := Op.indexAddr 46 (Operand.tmp 102) (Operand.tmp 104), type := 0, pos := "law.go:90", after := #[{ on := 45, ground := Ground.data }, { on := 47, ground := Ground.data }, { on := 39, ground := Ground.guard }], guard := some (39, false) }) (v := ?vnt48) rfl (by kernel_rfl) (by kernel_rfl) (by kernel_rfl) (fun _ _ _ h => h) (Or.inl ⟨?gnt48, ?ynt48⟩) (by assumption) ?rnt48
          case gnt48 => rfl
          case ynt48 => (intro w hSw; (try dsimp only at hSw); go_simp; all_goals (with_reducible rfl))
          try simp only [Act.put, List.setIfInBounds_toArray, List.set_cons_zero, List.set_cons_succ]
          refine' wpAnyH_take (i := 49) (oi := { dst := some 106, op := Op.fieldAddr 56 (Operand.tmp 105) 0, type := 0, pos := "law.go:90", after := #[{ on := 48, ground := Ground.data }, { on := 39, ground := Ground.guard }], guard := some (39, false) }) (v := ?vnt49) rfl (by kernel_rfl) (by kernel_rfl) (by kernel_rfl) (fun _ _ _ h => h) (Or.inl ⟨?gnt49, ?ynt49⟩) (by assumption) ?rnt49
          case gnt49 => rfl
          case ynt49 => (intro w hSw; (try dsimp only at hSw); go_simp; all_goals (with_reducible rfl))
          try simp only [Act.put, List.setIfInBounds_toArray, List.set_cons_zero, List.set_cons_succ]
          refine' wpAnyH_take (i := 50) (oi := { dst := some 107, op := Op.load 3 (Operand.tmp 106), type := 3, pos := "law.go:90", after := #[{ on := 49, ground := Ground.data }, { on := 39, ground := Ground.guard }], guard := some (39, false) }) (v := ?vnt50) rfl (by kernel_rfl) (by kernel_rfl) (by kernel_rfl) (fun _ _ _ h => h) (Or.inl ⟨?gnt50, ?ynt50⟩) (by assumption) ?rnt50
          case gnt50 => rfl
          case ynt50 => (intro w hSw; (try dsimp only at hSw); go_simp; all_goals (with_reducible rfl))
          try simp only [Act.put, List.setIfInBounds_toArray, List.set_cons_zero, List.set_cons_succ]
          refine' wpAnyH_take (i := 51) (oi := { dst := some 108, op := Op.binOp BinOp.lss 3 (Operand.tmp 101) (Operand.tmp 107) 3, type := 4, pos := "law.go:90", after := #[{ on := 44, ground := Ground.data }, { on := 50, ground := Ground.data }, { on := 39, ground := Ground.guard }], guard := some (39, false) }) (v := ?vnt51) rfl (by kernel_rfl) (by kernel_rfl) (by kernel_rfl) (fun _ _ _ h => h) (Or.inl ⟨?gnt51, ?ynt51⟩) (by assumption) ?rnt51
          case gnt51 => rfl
          case ynt51 => (intro w hSw; (try dsimp only at hSw); go_simp; all_goals (with_reducible rfl))
          try simp only [Act.put, List.setIfInBounds_toArray, List.set_cons_zero, List.set_cons_succ]
          refine' wpAnyH_take (i := 52) (oi := { dst := some 109, op := Op.pick (Operand.tmp 96) (Operand.const (Value.bool true)) (Operand.tmp 108), type := 4, pos := "law.go:90", after := #[{ on := 39, ground := Ground.data }, { on := 51, ground := Ground.data }, { on := 26, ground := Ground.guard }], guard := some (26, true) }) (v := ?vnt52) rfl (by kernel_rfl) (by kernel_rfl) (by kernel_rfl) (fun _ _ _ h => h) (Or.inl ⟨?gnt52, ?ynt52⟩) (by assumption) ?rnt52
          case gnt52 => rfl
          case ynt52 => (intro w hSw; (try dsimp only at hSw); go_simp; all_goals (with_reducible rfl))
          try simp only [Act.put, List.setIfInBounds_toArray, List.set_cons_zero, List.set_cons_succ]
          refine' wpAnyH_take (i := 53) (oi := { dst := some 110, op := Op.pick (Operand.tmp 83) (Operand.tmp 109) (Operand.const (Value.bool false)), type := 4, pos := "law.go:90", after := #[{ on := 26, ground := Ground.data }, { on := 52, ground := Ground.data }, { on := 23, ground := Ground.guard }], guard := some (23, false) }) (v := ?vnt53) rfl (by kernel_rfl) (by kernel_rfl) (by kernel_rfl) (fun _ _ _ h => h) (Or.inl ⟨?gnt53, ?ynt53⟩) (by assumption) ?rnt53
          case gnt53 => rfl
          case ynt53 => (intro w hSw; (try dsimp only at hSw); go_simp; all_goals (with_reducible rfl))
          try simp only [Act.put, List.setIfInBounds_toArray, List.set_cons_zero, List.set_cons_succ]
          refine' wpAnyH_take (i := 54) (oi := { dst := some 111, op := Op.pick (Operand.tmp 80) (Operand.const (Value.bool true)) (Operand.tmp 110), type := 4, pos := "law.go:90", after := #[{ on := 23, ground := Ground.data }, { on := 53, ground := Ground.data }], guard := none }) (v := ?vnt54) rfl (by kernel_rfl) (by kernel_rfl) (by kernel_rfl) (fun _ _ _ h => h) (Or.inl ⟨?gnt54, ?ynt54⟩) (by assumption) ?rnt54
          case gnt54 => rfl
          case ynt54 => (intro w hSw; (try dsimp only at hSw); go_simp; all_goals (with_reducible rfl))
          try simp only [Act.put, List.setIfInBounds_toArray, List.set_cons_zero, List.set_cons_succ]
          refine wpAnyH_done (by kernel_rfl) ?_ _
          have hh : Below wr.heap.size wr w5 := hHeld.2.2.2.2
          go_wp2_with fail
          go_round
          case rel => exact ⟨j + 1 + 1, by omega, by go_num, HC.out.below hh, HB.out.trans (hh.mono HB.out.size)⟩
          case measure => simp [intOf]; omega
      · have e : i = 13 := by omega
        subst e
        clear hc
        go_wp2_with fail
        refine (awake5 _).mono ?_; rintro e w4 ⟨rfl, hb⟩
        have hB4 := Lib.hid (hB.trans (hb.mono hB.size))
        clear hb
        go_wp2
        go_ret
        exact ⟨rfl, hB4.out⟩

theorem walk_FeastAll (h : Int) (ab : Bool) (wh : (Lit.int .i64 h).wf = true) (w : World) : Calls Try.prog 20 #[.int .i64 h, .bool ab] w fun e w' => e = .returned (.bool true) ∧ Below w.heap.size w w' := by
  by_cases hy : Yr h
  · exact fall_ok h ab _ _ w hy rfl (feasts_len _ _ _) rfl
  · have hn := newyear_no h
    go_enter Try.func20, Try.ntmps20
    go_wp2_with fail
    refine (flist_no _ _ _ hy).mono ?_; rintro e w1 ⟨rfl, h1⟩
    go_wp2_with fail
    refine (newyear_no _ _ hy).mono ?_; rintro e w' ⟨rfl, rfl⟩
    go_wp2_with fail
    refine (awake5 _).mono ?_; rintro e w2 ⟨rfl, hb⟩
    have HB := Lib.hid (h1.trans (hb.mono h1.size))
    clear hb h1 hn
    go_wp2
    go_ret
    exact ⟨rfl, HB.out⟩

end Go.Proofs.Ytdjfmcomeaijgaa
