/- The reference of chapter 5: the days of rest that touch; are two rows the same? -/
import Derived.Test.YtdjfmcomeaijgaaFM
import Derived.Test.YtdjfmcomeaijgaaFK
namespace Go.Proofs.Ytdjfmcomeaijgaa
open Go Go.RowKit
set_option linter.unusedVariables false
set_option linter.unusedSimpArgs false

set_option maxHeartbeats 2000000 in
theorem rfRun_ok (n a b : Int) (ab : Bool) (w : World) (h1 : a ≤ n) (h2 : n ≤ b) (h3 : b - a ≤ 2) (hin : ∀ x, a ≤ x → x ≤ b → RestP x ab) (ha : ¬ RestP (a - 1) ab) (hb : ¬ RestP (b + 1) ab) :
    Calls Try.prog 56 #[.int .i64 n, .bool ab] w fun e w' => e = .returned (.agg #[.int .i64 a, .int .i64 b]) ∧ Below w.heap.size w w' := by
  have hr := hin n h1 h2
  have bd := restP_bd hr
  obtain ⟨bd1, bd2⟩ := bd
  obtain ⟨j, hj⟩ : ∃ j : Nat, n - a = j := ⟨(n - a).toNat, by omega⟩
  obtain ⟨l, hl⟩ : ∃ l : Nat, b - n = l := ⟨(b - n).toNat, by omega⟩
  have D := Lib.hid (show ∀ i : Nat, i ≤ j → (decide (i < j) = true ↔ RestP (n - i - 1) ab) from fun i hi => by
    by_cases c : i < j
    · exact ⟨fun _ => hin _ (by omega) (by omega), fun _ => decide_eq_true c⟩
    · have e : n - (i : Int) - 1 = a - 1 := by omega
      rw [e, decide_eq_false c]
      exact ⟨fun x => (nomatch x), fun x => absurd x ha⟩)
  have U := Lib.hid (show ∀ i : Nat, i ≤ l → (decide (i < l) = true ↔ RestP (n + i + 1) ab) from fun i hi => by
    by_cases c : i < l
    · exact ⟨fun _ => hin _ (by omega) (by omega), fun _ => decide_eq_true c⟩
    · have e : n + (i : Int) + 1 = b + 1 := by omega
      rw [e, decide_eq_false c]
      exact ⟨fun x => (nomatch x), fun x => absurd x hb⟩)
  have HJ := Lib.hid hj
  have HL := Lib.hid hl
  have j3 : j ≤ 2 := by omega
  have l3 : l ≤ 2 := by omega
  clear hin ha hb hr hj hl h1 h2 h3
  have hA := (Below.refl w.heap.size w).alloc (Nat.le_refl _) (.cells #[.int .i64 0, .int .i64 0] 53)
  have kA := BlockIs.new w #[.int .i64 0, .int .i64 0] 53
  go_enter Try.func56, Try.ntmps56
  go_wp2_with fail
  refine (rfRest_any (n - 1) ab (decide (0 < j)) _ (by unfold I64; omega) (by have := D.out 0 (by omega); simpa using this)).mono ?_; rintro e w1 ⟨rfl, hb⟩
  have hB1 := hA.trans (hb.mono hA.size)
  have k1 := kA.kept hb
  clear hA hb kA
  go_wp2_with fail
  go_loopw [5, 7] (fun x y wr => ∃ i : Nat, i ≤ j ∧ x = .int .i64 (n - i) ∧ y = .bool (decide (i < j)) ∧ BlockIs wr w.heap.size #[.int .i64 0, .int .i64 0] 53 ∧ Below w.heap.size w wr) (fun x _ _ => (intOf x - n + j).toNat)
  case atStart => exact ⟨0, by omega, by simp, rfl, k1, hB1⟩
  case round =>
    clear k1 hB1
    obtain ⟨i, hi, rfl, rfl, k1, hB1⟩ := hrel
    by_cases c : i < j
    · have hd : decide (i < j) = true := decide_eq_true c
      go_wp2_with fail
      refine (rfRest_any _ ab (decide (i + 1 < j)) _ (by unfold I64; omega) (by have := D.out (i + 1) (by omega); rw [show n - (i : Int) - 1 - 1 = n - ((i + 1 : Nat) : Int) - 1 by omega]; exact this)).mono ?_; rintro e w2 ⟨rfl, hb⟩
      have hB2 := hB1.trans (hb.mono hB1.size)
      have k2 := k1.kept hb
      clear hb hd
      go_wp2_with fail
      go_round
      case rel => exact ⟨i + 1, by omega, by go_num, rfl, k2, hB2⟩
      case measure => simp [intOf]; omega
    · have e : i = j := by omega
      subst e
      have hd : decide (i < i) = false := by simp
      clear c
      go_wp2_with fail
      refine (rfRest_any (n + 1) ab (decide (0 < l)) _ (by unfold I64; omega) (by have := U.out 0 (by omega); simpa using this)).mono ?_; rintro e w2 ⟨rfl, hb⟩
      have hB2 := hB1.trans (hb.mono hB1.size)
      have k2 := k1.kept hb
      clear hb hd hB1 k1
      go_wp2_with fail
      go_loopw [6, 7] (fun x y wr => ∃ q : Nat, q ≤ l ∧ x = .int .i64 (n + q) ∧ y = .bool (decide (q < l)) ∧ BlockIs wr w.heap.size #[.int .i64 0, .int .i64 0] 53 ∧ Below w.heap.size w wr) (fun x _ _ => (n + l - intOf x).toNat)
      case atStart => exact ⟨0, by omega, by simp, rfl, k2, hB2⟩
      case round =>
        clear k2 hB2
        obtain ⟨q, hq, rfl, rfl, k2, hB2⟩ := hrel
        by_cases c : q < l
        · have hd : decide (q < l) = true := decide_eq_true c
          go_wp2_with fail
          refine (rfRest_any _ ab (decide (q + 1 < l)) _ (by unfold I64; omega) (by have := U.out (q + 1) (by omega); rw [show n + (q : Int) + 1 + 1 = n + ((q + 1 : Nat) : Int) + 1 by omega]; exact this)).mono ?_; rintro e w3 ⟨rfl, hb⟩
          have hB3 := hB2.trans (hb.mono hB2.size)
          have k3 := k2.kept hb
          clear hb hd
          go_wp2_with fail
          go_round
          case rel => exact ⟨q + 1, by omega, by go_num, rfl, k3, hB3⟩
          case measure => simp [intOf]; omega
        · have e : q = l := by omega
          subst e
          have hd : decide (q < q) = false := by simp
          clear c
          have f0 := k2.free 0
          have f1 := k2.free 1
          have c0 : wr.cell? ⟨w.heap.size, 0, none⟩ = some (.int .i64 0) := k2.cell rfl
          have c1 : wr.cell? ⟨w.heap.size, 1, none⟩ = some (.int .i64 0) := k2.cell rfl
          go_wp2_with fail
          have k3 := (k2.set 0 (.int .i64 (n - i))).set 1 (.int .i64 (n + q))
          have hB3 := (hB2.setCell (p := ⟨w.heap.size, 0, none⟩) (Nat.le_refl _) (.int .i64 (n - i))).setCell (p := ⟨w.heap.size, 1, none⟩) (Nat.le_refl _) (.int .i64 (n + q))
          generalize ((wr.setCell ⟨w.heap.size, 0, none⟩ (.int .i64 (n - i))).setCell ⟨w.heap.size, 1, none⟩ (.int .i64 (n + q))) = WE at *
          have e0 : WE.cell? ⟨w.heap.size, 0, none⟩ = some (.int .i64 (n - i)) := k3.cell rfl
          have e1 : WE.cell? ⟨w.heap.size, 1, none⟩ = some (.int .i64 (n + q)) := k3.cell rfl
          have ea : n - (i : Int) = a := by have := HJ.out; omega
          have eb : n + (q : Int) = b := by have := HL.out; omega
          rw [ea] at e0
          rw [eb] at e1
          clear k3
          exact bodyPost_ret (v := .agg #[.int .i64 a, .int .i64 b]) (by simp [results, Try.results56, go_sem, e0, e1]) rfl ⟨rfl, hB3⟩

/-- v is the row of feasts xs (a kind and a day each), as it lies in w. -/
def RowF (w : World) (v : Value) (xs : List (Int × Int)) : Prop := (xs = [] ∧ v = .slice none 0 0) ∨ ∃ g cap, v = .slice (some ⟨g, 0, none⟩) xs.length cap ∧ ∀ i x, xs[i]? = some x → w.cell? ⟨g, i * 2, none⟩ = some (.int .i64 x.1) ∧ w.cell? ⟨g, i * 2 + 1, none⟩ = some (.int .i64 x.2)
def cellsF (xs : List (Int × Int)) : List Value := xs.flatMap fun x => [.int .i64 x.1, .int .i64 x.2]
theorem cellsF_len (xs : List (Int × Int)) : (cellsF xs).length = xs.length * 2 := by
  induction xs with
  | nil => rfl
  | cons x xs ih => simp only [cellsF, List.flatMap_cons, List.length_append, List.length_cons, List.length_nil] at *; omega
theorem cellsF_at : ∀ (xs : List (Int × Int)) (i : Nat) (x : Int × Int), xs[i]? = some x → (cellsF xs)[i * 2]? = some (.int .i64 x.1) ∧ (cellsF xs)[i * 2 + 1]? = some (.int .i64 x.2)
  | [], i, x, h => by simp at h
  | y :: ys, 0, x, h => by simp at h; subst h; exact ⟨rfl, rfl⟩
  | y :: ys, i + 1, x, h => by
    have ih := cellsF_at ys i x (by simpa using h)
    have e : cellsF (y :: ys) = .int .i64 y.1 :: .int .i64 y.2 :: cellsF ys := rfl
    rw [e, show (i + 1) * 2 = i * 2 + 1 + 1 by omega]
    simpa using ih
theorem rowF_of {w : World} {base n : Nat} {v : Value} {xs : List (Int × Int)} {ys : List Value} (h : w.ownsRow base 56 2 v n ys) (e : ys = cellsF xs) : RowF w v xs := by
  subst e
  have hl : n = xs.length := by have := h.1; rw [cellsF_len] at this; omega
  subst hl
  by_cases c : xs.length = 0
  · have x0 : xs = [] := List.length_eq_zero_iff.1 c
    subst x0
    rcases h.2 with ⟨h1, _⟩ | ⟨g, cap, cur, h1, h2⟩
    · exact .inl ⟨rfl, h1⟩
    · exact .inr ⟨g, cap, h1, fun i x hx => by simp at hx⟩
  · right
    obtain ⟨g, cap, hv, _, _⟩ := h.form (by omega)
    subst hv
    have hc := h.cells (g := g) rfl
    have ad : ∀ o : Nat, (⟨g, 0, none⟩ : Addr).add o = ⟨g, o, none⟩ := fun o => by
      by_cases c0 : o = 0
      · subst c0; simp [Addr.add]
      · simp [Addr.add, c0]
    refine ⟨g, cap, rfl, fun i x hx => ?_⟩
    obtain ⟨q1, q2⟩ := cellsF_at xs i x hx
    have r1 := hc _ _ q1
    have r2 := hc _ _ q2
    rw [ad] at r1 r2
    exact ⟨r1, r2⟩
theorem RowF.below {w w' : World} {v : Value} {xs : List (Int × Int)} (h : RowF w v xs) (hb : Below w.heap.size w w') : RowF w' v xs := by
  rcases h with h | ⟨g, cap, h1, h2⟩
  · exact .inl h
  · refine .inr ⟨g, cap, h1, fun i x hx => ?_⟩
    obtain ⟨a1, a2⟩ := h2 i x hx
    exact ⟨(hb.cell (p := ⟨g, _, none⟩) (World.block_lt_of_cell? w _ a1)).trans a1, (hb.cell (p := ⟨g, _, none⟩) (World.block_lt_of_cell? w _ a2)).trans a2⟩

set_option maxHeartbeats 2000000 in
theorem rfsame_nil (p p' : Option Addr) (c c' : Nat) (w : World) : Calls Try.prog 53 #[.slice p 0 c, .slice p' 0 c'] w fun e w' => e = .returned (.bool true) ∧ Below w.heap.size w w' := by
  go_enter Try.func53, Try.ntmps53
  go_wp2_with fail
  go_loopw [5] (fun i wr => i = .int .i64 0 ∧ w = wr) (fun _ _ => 0)
  case atStart => exact ⟨rfl, rfl⟩
  case round =>
    obtain ⟨rfl, rfl⟩ := hrel
    go_wp2
    go_ret
    exact ⟨rfl, Below.refl _ _⟩

set_option maxHeartbeats 2000000 in
theorem rfsame_ok (g g' cap cap' n : Nat) (xs : List (Int × Int)) (w : World) (hn : xs.length = n) (h63 : n < 1000000) (ha : ∀ i x, xs[i]? = some x → w.cell? ⟨g, i * 2, none⟩ = some (.int .i64 x.1) ∧ w.cell? ⟨g, i * 2 + 1, none⟩ = some (.int .i64 x.2)) (hb : ∀ i x, xs[i]? = some x → w.cell? ⟨g', i * 2, none⟩ = some (.int .i64 x.1) ∧ w.cell? ⟨g', i * 2 + 1, none⟩ = some (.int .i64 x.2)) :
    Calls Try.prog 53 #[.slice (some ⟨g, 0, none⟩) n cap, .slice (some ⟨g', 0, none⟩) n cap'] w fun e w' => e = .returned (.bool true) ∧ Below w.heap.size w w' := by
  go_enter Try.func53, Try.ntmps53
  go_wp2_with fail
  go_loopw [5] (fun i wr => ∃ k : Nat, k ≤ n ∧ i = .int .i64 (k : Int) ∧ (∀ i x, xs[i]? = some x → wr.cell? ⟨g, i * 2, none⟩ = some (.int .i64 x.1) ∧ wr.cell? ⟨g, i * 2 + 1, none⟩ = some (.int .i64 x.2)) ∧ (∀ i x, xs[i]? = some x → wr.cell? ⟨g', i * 2, none⟩ = some (.int .i64 x.1) ∧ wr.cell? ⟨g', i * 2 + 1, none⟩ = some (.int .i64 x.2)) ∧ Below w.heap.size w wr) (fun i _ => (n - intOf i).toNat)
  case atStart => exact ⟨0, by omega, rfl, ha, hb, Below.refl _ _⟩
  case round =>
    obtain ⟨k, hk, rfl, ha, hb, hB⟩ := hrel
    by_cases c : k < n
    · obtain ⟨c0, c2⟩ := ha k xs[k] (by simp)
      obtain ⟨c1, c3⟩ := hb k xs[k] (by simp)
      generalize xs[k] = x at *
      obtain ⟨x, y⟩ := x
      simp only at c0 c1 c2 c3
      have HB := Lib.hid hB
      have HA := Lib.hid ha
      have HB2 := Lib.hid hb
      clear ha hb hB
      go_wp2_with fail
      go_quiet (fail)
      go_wp2
      go_round
      case rel => exact ⟨k + 1, by omega, by go_num, HA.out, HB2.out, below_drewN HB.out _⟩
      case measure => simp [intOf]; omega
    · have e : k = n := by omega
      subst e
      go_wp2
      go_ret
      exact ⟨rfl, hB⟩

theorem rfsame_any (a b : Value) (xs : List (Int × Int)) (w : World) (h63 : xs.length < 1000000) (ha : RowF w a xs) (hb : RowF w b xs) : Calls Try.prog 53 #[a, b] w fun e w' => e = .returned (.bool true) ∧ Below w.heap.size w w' := by
  rcases ha with ⟨h1, rfl⟩ | ⟨g, cap, rfl, h2⟩
  · rcases hb with ⟨h1', rfl⟩ | ⟨g', cap', rfl, h2'⟩
    · exact rfsame_nil _ _ _ _ w
    · subst h1
      exact rfsame_nil _ _ _ _ w
  · rcases hb with ⟨h1', rfl⟩ | ⟨g', cap', rfl, h2'⟩
    · subst h1'
      exact rfsame_nil _ _ _ _ w
    · exact rfsame_ok g g' cap cap' _ xs w rfl h63 h2 h2'

end Go.Proofs.Ytdjfmcomeaijgaa
