/- FeastWeekdays: on which weekdays feasts can't be; Pentecost is 50 days behind Passover: the walk. -/
import Derived.Test.YtdjfmcomeaijgaaFQ
namespace Go.Proofs.Ytdjfmcomeaijgaa
open Go Go.RowKit
set_option linter.unusedVariables false
set_option linter.unusedSimpArgs false

/-- Two cells that are held, and a world that has grown since. -/
theorem keepW2 {p o1 o2 : Nat} {v1 v2 : Value} {n : Nat} {w0 W w2 : World} (h : W.cell? ⟨p, o1, none⟩ = some v1 ∧ W.cell? ⟨p, o2, none⟩ = some v2 ∧ Below n w0 W) (hb : Below W.heap.size W w2) (hn : n ≤ w0.heap.size) :
    w2.cell? ⟨p, o1, none⟩ = some v1 ∧ w2.cell? ⟨p, o2, none⟩ = some v2 ∧ Below n w0 w2 := by
  obtain ⟨h1, h2, hB⟩ := h
  have hs := hB.size
  have g : ∀ {b o : Nat} {v : Value}, W.cell? ⟨b, o, none⟩ = some v → w2.cell? ⟨b, o, none⟩ = some v := fun {b o v} x => (hb.cell (p := ⟨b, o, none⟩) (World.block_lt_of_cell? W _ x)).trans x
  exact ⟨g h1, g h2, hB.trans (hb.mono (by omega))⟩
def CellsW (w : World) (g : Nat) (xs : List (Int × Int)) : Prop := ∀ i x, xs[i]? = some x → w.cell? ⟨g, i * 2, none⟩ = some (.int .i64 x.1) ∧ w.cell? ⟨g, i * 2 + 1, none⟩ = some (.int .i64 x.2)

set_option maxRecDepth 100000 in
set_option maxHeartbeats 8000000 in
theorem fweek_ok (h : Int) (xs : List (Int × Int)) (w : World) (hy : Yr h) (hx : feasts (ylen h) (ny h) false = xs) :
    Calls Try.prog 21 #[.int .i64 h] w fun e w' => e = .returned (.bool true) ∧ Below w.heap.size w w' := by
  have HL := Lib.hid (show xs.length = 8 by rw [← hx, feasts_len]; rfl)
  have F := Lib.hid (show ∀ x ∈ xs, KindN x.2 false x.1 ∧ RestP x.2 false ∧ -2000000 ≤ x.2 ∧ x.2 ≤ 4000000 ∧ 1 ≤ x.1 ∧ x.1 ≤ 7 by rw [← hx]; exact feast_facts hy false)
  have Wk := Lib.hid (show ∀ x ∈ xs, (x.1 = 2 → x.2 % 7 ≠ 0 ∧ x.2 % 7 ≠ 2 ∧ x.2 % 7 ≠ 5) ∧ (x.1 = 5 → x.2 % 7 ≠ 1 ∧ x.2 % 7 ≠ 3 ∧ x.2 % 7 ≠ 5) ∧ (x.1 = 3 → x.2 % 7 ≠ 0 ∧ x.2 % 7 ≠ 3 ∧ x.2 % 7 ≠ 5) by rw [← hx]; exact feast_week hy)
  obtain ⟨P, Q, e5, e7, ePQ, bP⟩ : ∃ P Q : Int, xs[5]? = some (5, P) ∧ xs[7]? = some (7, Q) ∧ Q - P = 50 ∧ (-3000000 ≤ P ∧ P ≤ 5000000) := by
    have lb := ylen_bd hy
    have nb := ny_bd h (by have := hy.1; omega) (by have := hy.2; omega)
    exact ⟨_, _, by rw [← hx]; rfl, by rw [← hx]; rfl, by omega, by omega⟩
  obtain ⟨bP1, bP2⟩ := bP
  have E5 := Lib.hid e5
  have E7 := Lib.hid e7
  have hx := Lib.hid hx
  clear e5 e7
  go_enter Try.func21, Try.ntmps21
  go_wp2_with fail
  refine (flist_row _ _ xs _ hy hx.out).mono ?_; rintro e w1 ⟨out, rfl, ro, h1⟩
  obtain ⟨g, cap, rfl, hc⟩ := rowF_some ro 8 HL.out (by omega)
  have hc : CellsW w1 g xs := hc
  clear ro
  go_wp2_with fail
  go_loopw [5, 6] (fun x _ wr => ∃ i : Nat, i ≤ 8 ∧ x = .int .i64 (i : Int) ∧ w1 = wr) (fun x _ _ => (8 - intOf x).toNat)
  case atStart => exact ⟨0, by omega, rfl, rfl⟩
  case round =>
    obtain ⟨i, hi, rfl, rfl⟩ := hrel
    by_cases c : i < 8
    · obtain ⟨⟨K, D⟩, hK⟩ : ∃ x, xs[i]? = some x := ⟨xs[i]'(by rw [HL.out]; exact c), by simp⟩
      obtain ⟨_, _, b1, b2, b3, b4⟩ := F.out _ (List.mem_of_getElem? hK)
      obtain ⟨q1, q2, q3⟩ := Wk.out _ (List.mem_of_getElem? hK)
      obtain ⟨c0, c1⟩ := hc i _ hK
      simp only at b1 b2 b3 b4 c0 c1 q1 q2 q3
      have hI : I64 D := by unfold I64; omega
      have x2 : (i : Int) < 8 := by omega
      have HC := Lib.hid hc
      have H1 := Lib.hid h1
      clear hc hK h1
      have hW : ∃ W : Int, D % 7 = W ∧ 0 ≤ W ∧ W ≤ 6 := ⟨_, rfl, by omega, by omega⟩
      obtain ⟨W, hW, w0, w6⟩ := hW
      rw [hW] at q1 q2 q3
      have HW := Lib.hid hW
      clear hW
      go_wp2_with fail
      refine (weekday_any _ _ hI).mono ?_; rintro e w' ⟨rfl, rfl⟩
      rw [HW.out]
      by_cases k2 : K = 2
      · obtain ⟨y1, y2, y3⟩ := q1 k2
        have f1 : (W == 0) = false := beq_eq_false_iff_ne.2 y1
        have f2 : (W == 2) = false := beq_eq_false_iff_ne.2 y2
        have f3 : (W == 5) = false := beq_eq_false_iff_ne.2 y3
        have g1 : (K == 2) = true := beq_iff_eq.2 k2
        have g2 : (K == 5) = false := beq_eq_false_iff_ne.2 (by omega)
        have g3 : (K == 3) = false := beq_eq_false_iff_ne.2 (by omega)
        clear k2 q1 q2 q3 y1 y2 y3
        go_wp2_with fail
        go_round
        case rel => exact ⟨i + 1, by omega, by go_num, trivial⟩
        case measure => simp [intOf]; omega
      · by_cases k5 : K = 5
        · obtain ⟨y1, y2, y3⟩ := q2 k5
          have f1 : (W == 1) = false := beq_eq_false_iff_ne.2 y1
          have f2 : (W == 3) = false := beq_eq_false_iff_ne.2 y2
          have f3 : (W == 5) = false := beq_eq_false_iff_ne.2 y3
          have g1 : (K == 2) = false := beq_eq_false_iff_ne.2 k2
          have g2 : (K == 5) = true := beq_iff_eq.2 k5
          have g3 : (K == 3) = false := beq_eq_false_iff_ne.2 (by omega)
          clear k2 k5 q1 q2 q3 y1 y2 y3
          go_wp2_with fail
          go_round
          case rel => exact ⟨i + 1, by omega, by go_num, trivial⟩
          case measure => simp [intOf]; omega
        · by_cases k3 : K = 3
          · obtain ⟨y1, y2, y3⟩ := q3 k3
            have f1 : (W == 0) = false := beq_eq_false_iff_ne.2 y1
            have f2 : (W == 3) = false := beq_eq_false_iff_ne.2 y2
            have f3 : (W == 5) = false := beq_eq_false_iff_ne.2 y3
            have g1 : (K == 2) = false := beq_eq_false_iff_ne.2 k2
            have g2 : (K == 5) = false := beq_eq_false_iff_ne.2 k5
            have g3 : (K == 3) = true := beq_iff_eq.2 k3
            clear k2 k5 k3 q1 q2 q3 y1 y2 y3
            go_wp2_with fail
            go_round
            case rel => exact ⟨i + 1, by omega, by go_num, trivial⟩
            case measure => simp [intOf]; omega
          · have g1 : (K == 2) = false := beq_eq_false_iff_ne.2 k2
            have g2 : (K == 5) = false := beq_eq_false_iff_ne.2 k5
            have g3 : (K == 3) = false := beq_eq_false_iff_ne.2 k3
            clear k2 k5 k3 q1 q2 q3
            go_wp2_with fail
            go_round
            case rel => exact ⟨i + 1, by omega, by go_num, trivial⟩
            case measure => simp [intOf]; omega
    · have e : i = 8 := by omega
      subst e
      have c5 : w1.cell? ⟨g, 11, none⟩ = some (.int .i64 P) := (hc 5 _ E5.out).2
      have c7 : w1.cell? ⟨g, 15, none⟩ = some (.int .i64 Q) := (hc 7 _ E7.out).2
      have hpq : (Q - P == 50) = true := beq_iff_eq.2 ePQ
      have HB := Lib.hid h1
      have hpq2 := Lib.hid ePQ
      have bQ1 : -3000000 ≤ Q := by omega
      have bQ2 : Q ≤ 5000100 := by omega
      clear hc h1 ePQ
      go_wp2_with fail
      go_region_held3 (fun w' => w'.cell? ⟨g, 11, none⟩ = some (.int .i64 P) ∧ w'.cell? ⟨g, 15, none⟩ = some (.int .i64 Q) ∧ Below w1.heap.size w1 w')
        (first
          | (exact ⟨c5, c7, (Below.refl _ _).drew⟩)
          | assumption
          | (refine keepW2 (by assumption) hb4 (Nat.le_refl _))
          | go_keep)
        (first
          | (go_at_call 47; refine (awake5 _).mono ?_; rintro e w4 ⟨rfl, hb4⟩))
      have hh : Below w1.heap.size w1 w4 := (‹_ ∧ _ ∧ Below _ _ w4›).2.2
      go_wp2
      go_ret
      exact ⟨boolF (by rw [IntWalk.i64_in (Q - P) ⟨by omega, by omega⟩]; exact hpq), HB.out.trans (hh.mono HB.out.size)⟩

theorem walk_FeastWeekdays (h : Int) (wh : (Lit.int .i64 h).wf = true) (w : World) : Calls Try.prog 21 #[.int .i64 h] w fun e w' => e = .returned (.bool true) ∧ Below w.heap.size w w' := by
  by_cases hy : Yr h
  · exact fweek_ok h _ w hy rfl
  · go_enter Try.func21, Try.ntmps21
    go_wp2_with fail
    refine (flist_no _ _ _ hy).mono ?_; rintro e w1 ⟨rfl, h1⟩
    go_wp2_with fail
    refine (awake5 _).mono ?_; rintro e w2 ⟨rfl, hb⟩
    have HB := Lib.hid (h1.trans (hb.mono h1.size))
    clear hb h1
    go_wp2_with fail
    refine (rmay_no _ _ hy).mono ?_; rintro e w' ⟨rfl, rfl⟩
    go_wp2
    go_ret
    exact ⟨rfl, HB.out⟩

end Go.Proofs.Ytdjfmcomeaijgaa
