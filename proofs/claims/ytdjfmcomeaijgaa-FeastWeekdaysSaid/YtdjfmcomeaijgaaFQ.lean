/- What the feasts of a year are, each by each: plain numbers. -/
import Derived.Test.YtdjfmcomeaijgaaFP
namespace Go.Proofs.Ytdjfmcomeaijgaa
open Go.RowKit
set_option linter.unusedVariables false
set_option linter.unusedSimpArgs false

theorem offK_feast {L y : Int} (ab : Bool) (hL : 353 ≤ L) : ∀ x ∈ feasts L y ab, offK L (x.2 - y) ab = x.1 ∧ 0 ≤ x.2 - y ∧ x.2 - y ≤ L - 112 ∧ 1 ≤ x.1 ∧ x.1 ≤ 7 := by
  intro x hx
  cases ab
  · simp only [feasts, Bool.false_eq_true, if_false, List.mem_cons, List.not_mem_nil, or_false] at hx
    rcases hx with e | e | e | e | e | e | e | e <;> subst e <;> dsimp only <;> refine ⟨?_, by omega, by omega, by omega, by omega⟩
    all_goals
      unfold offK
      simp only [Bool.false_eq_true, false_and, or_false]
      repeat' split
      all_goals first | rfl | (exfalso; omega)
  · simp only [feasts, if_true, List.mem_cons, List.not_mem_nil, or_false] at hx
    rcases hx with e | e | e | e | e | e | e | e | e | e | e | e | e <;> subst e <;> dsimp only <;> refine ⟨?_, by omega, by omega, by omega, by omega⟩
    all_goals
      unfold offK
      simp only [true_and]
      repeat' split
      all_goals first | rfl | (exfalso; omega)

theorem feast_facts {h : Int} (hy : Yr h) (ab : Bool) : ∀ x ∈ feasts (ylen h) (ny h) ab, KindN x.2 ab x.1 ∧ RestP x.2 ab ∧ -2000000 ≤ x.2 ∧ x.2 ≤ 4000000 ∧ 1 ≤ x.1 ∧ x.1 ≤ 7 := by
  intro x hx
  have lb := ylen_bd hy
  obtain ⟨o1, o2, o3, o4, o5⟩ := offK_feast ab lb.1 x hx
  obtain ⟨k1, k2, k3⟩ := kind_at hy (i := x.2 - ny h) o2 (by omega) ab
  rw [o1, show ny h + (x.2 - ny h) = x.2 by omega] at k1
  rw [show ny h + (x.2 - ny h) = x.2 by omega] at k2 k3
  have b1 := ny_bd 3762 (by omega) (by omega)
  have b2 := ny_bd 9999 (by omega) (by omega)
  have b3 := ylen_bd (h := 9999) ⟨by omega, by omega⟩
  exact ⟨k1, (rest_kind k1).2 ⟨⟨k2, k3⟩, .inr (by omega)⟩, by omega, by omega, o4, o5⟩

theorem feasts_rise {L y : Int} (ab : Bool) (hL : 353 ≤ L) : (feasts L y ab).Pairwise (fun p q => p.2 < q.2 ∧ p.1 ≤ q.1) := by
  cases ab
  · simp only [feasts, Bool.false_eq_true, if_false, List.pairwise_cons, List.mem_cons, List.not_mem_nil, or_false, List.Pairwise.nil, and_true]
    refine ⟨?_, ?_, ?_, ?_, ?_, ?_, ?_, ?_⟩
    all_goals
      intro a ha
      first
        | (exact ha.elim)
        | (rcases ha with e | e | e | e | e | e | e <;> subst e <;> constructor <;> dsimp only <;> omega)
        | (rcases ha with e | e | e | e | e | e <;> subst e <;> constructor <;> dsimp only <;> omega)
        | (rcases ha with e | e | e | e | e <;> subst e <;> constructor <;> dsimp only <;> omega)
        | (rcases ha with e | e | e | e <;> subst e <;> constructor <;> dsimp only <;> omega)
        | (rcases ha with e | e | e <;> subst e <;> constructor <;> dsimp only <;> omega)
        | (rcases ha with e | e <;> subst e <;> constructor <;> dsimp only <;> omega)
        | (subst ha; constructor <;> dsimp only <;> omega)
  · simp only [feasts, if_true, List.pairwise_cons, List.mem_cons, List.not_mem_nil, or_false, List.Pairwise.nil, and_true]
    refine ⟨?_, ?_, ?_, ?_, ?_, ?_, ?_, ?_, ?_, ?_, ?_, ?_, ?_⟩
    all_goals
      intro a ha
      first
        | (exact ha.elim)
        | (rcases ha with e | e | e | e | e | e | e | e | e | e | e | e <;> subst e <;> constructor <;> dsimp only <;> omega)
        | (rcases ha with e | e | e | e | e | e | e | e | e | e | e <;> subst e <;> constructor <;> dsimp only <;> omega)
        | (rcases ha with e | e | e | e | e | e | e | e | e | e <;> subst e <;> constructor <;> dsimp only <;> omega)
        | (rcases ha with e | e | e | e | e | e | e | e | e <;> subst e <;> constructor <;> dsimp only <;> omega)
        | (rcases ha with e | e | e | e | e | e | e | e <;> subst e <;> constructor <;> dsimp only <;> omega)
        | (rcases ha with e | e | e | e | e | e | e <;> subst e <;> constructor <;> dsimp only <;> omega)
        | (rcases ha with e | e | e | e | e | e <;> subst e <;> constructor <;> dsimp only <;> omega)
        | (rcases ha with e | e | e | e | e <;> subst e <;> constructor <;> dsimp only <;> omega)
        | (rcases ha with e | e | e | e <;> subst e <;> constructor <;> dsimp only <;> omega)
        | (rcases ha with e | e | e <;> subst e <;> constructor <;> dsimp only <;> omega)
        | (rcases ha with e | e <;> subst e <;> constructor <;> dsimp only <;> omega)
        | (subst ha; constructor <;> dsimp only <;> omega)
theorem rise_at {L y : Int} (ab : Bool) (hL : 353 ≤ L) {j : Nat} {p q : Int × Int} (hp : (feasts L y ab)[j]? = some p) (hq : (feasts L y ab)[j + 1]? = some q) : p.2 < q.2 ∧ p.1 ≤ q.1 := by
  have h := feasts_rise (y := y) ab hL
  rw [List.pairwise_iff_getElem] at h
  obtain ⟨i1, e1⟩ := List.getElem?_eq_some_iff.1 hp
  obtain ⟨i2, e2⟩ := List.getElem?_eq_some_iff.1 hq
  have := h j (j + 1) i1 i2 (by omega)
  rw [e1, e2] at this
  exact this

/-- The weekdays on which feasts can't be. -/
theorem feast_week {h : Int} (hy : Yr h) : ∀ x ∈ feasts (ylen h) (ny h) false, (x.1 = 2 → x.2 % 7 ≠ 0 ∧ x.2 % 7 ≠ 2 ∧ x.2 % 7 ≠ 5) ∧ (x.1 = 5 → x.2 % 7 ≠ 1 ∧ x.2 % 7 ≠ 3 ∧ x.2 % 7 ≠ 5) ∧ (x.1 = 3 → x.2 % 7 ≠ 0 ∧ x.2 % 7 ≠ 3 ∧ x.2 % 7 ≠ 5) := by
  intro x hx
  have w1 := ny_week h
  have w2 := ny_week (h + 1)
  rw [ny_succ] at w2
  unfold offB at w1 w2
  simp at w1 w2
  simp only [feasts, Bool.false_eq_true, if_false, List.mem_cons, List.not_mem_nil, or_false] at hx
  rcases hx with e | e | e | e | e | e | e | e <;> subst e <;> dsimp only <;> refine ⟨?_, ?_, ?_⟩ <;> omega

end Go.Proofs.Ytdjfmcomeaijgaa
