/- A region that draws its order, by an invariant that says which operations are done: no branching over the orders. -/
import Derived.Orders
namespace Go.Proofs.Ytdjfmcomeaijgaa
open Go

theorem not_ready {md : Region.Mode} {ops : Array Oper} {listed : Array Bool} (h : listed.toList.count false = 0) : Region.ready md ops listed = [] := by
  rw [List.eq_nil_iff_forall_not_mem]
  intro j hj
  obtain ⟨h0, _⟩ := mem_ready.1 hj
  rw [List.count_eq_zero] at h
  by_cases c : j < listed.size
  · have e : listed[j] = false := by simpa [c] using h0
    exact h (by rw [← e]; exact Array.getElem_mem_toList c)
  · simp [Array.getElem?_eq_none (by omega : listed.size ≤ j)] at h0

theorem count_listed {md : Region.Mode} {ops : Array Oper} {listed : Array Bool} {i : Nat} (hi : i ∈ Region.ready md ops listed) : (listed.setIfInBounds i true).toList.count false + 1 = listed.toList.count false := by
  obtain ⟨h0, _⟩ := mem_ready.1 hi
  have c : i < listed.size := by
    by_cases c : i < listed.size
    · exact c
    · simp [Array.getElem?_eq_none (by omega : listed.size ≤ i)] at h0
  have e : listed[i] = false := by simpa [c] using h0
  have hm : false ∈ listed.toList := by rw [← e]; exact Array.getElem_mem_toList c
  have hp : 0 < listed.toList.count false := List.count_pos_iff.2 hm
  have c2 : i < listed.toList.length := by simpa using c
  have e2 : (listed.toList[i] == false) = true := by simp [e]
  have e3 : ((true : Bool) == false) = false := rfl
  rw [Array.toList_setIfInBounds, List.count_set c2]
  simp only [e2, e3, if_true, Bool.false_eq_true, if_false]
  omega

/-- Each operation that may come up keeps the invariant; at the end it gives the post. -/
theorem wpAny_inv {P : Program} {md : Region.Mode} {ops : Array Oper} {Q : Exit → Act → World → Prop} (Inv : Array Bool → Act → World → Prop)
    (hstep : ∀ listed a w i, Inv listed a w → i ∈ Region.ready md ops listed → wpOp P ops Q i (Inv (listed.setIfInBounds i true)) a w)
    (hend : ∀ listed a w, Inv listed a w → Region.ready md ops listed = [] → Q .normal a w) :
    ∀ (fuel : Nat) (listed : Array Bool) (a : Act) (w : World), listed.toList.count false ≤ fuel → Inv listed a w → wpAny P md ops Q fuel listed a w := by
  intro fuel
  induction fuel with
  | zero =>
    intro listed a w hc h
    have r := not_ready (md := md) (ops := ops) (listed := listed) (by omega)
    exact ⟨r, hend _ _ _ h r⟩
  | succ fuel ih =>
    intro listed a w hc h
    refine ⟨hend _ _ _ h, fun i hi => wpOp_mono (fun a' w' h' => ih _ a' w' ?_ h') (hstep _ _ _ i h hi)⟩
    have := count_listed hi
    omega

end Go.Proofs.Ytdjfmcomeaijgaa
