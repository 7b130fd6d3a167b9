/- feast.holies: each operation keeps what is said of the map; what the function hands back. -/
import Derived.Test.YtdjfmcomeaijgaaFC
namespace Go.Proofs.Ytdjfmcomeaijgaa
open Go Go.RowKit
set_option linter.unusedVariables false
set_option linter.unusedSimpArgs false

theorem getD_set {listed : Array Bool} {i : Nat} (hi : i < listed.size) (j : Nat) : (listed.setIfInBounds i true).getD j false = if j = i then true else listed.getD j false := by
  by_cases c : j = i
  · subst c; simp [hi]
  · rw [if_neg c]; exact getD_set_ne false (Ne.symm c)
theorem tmp_set {ts : Array Value} {d : Nat} (hd : d < ts.size) (v : Value) (t : Nat) : (ts.setIfInBounds d v)[t]? = if t = d then some v else ts[t]? := by
  by_cases c : t = d
  · subst c; simp [hd]
  · rw [if_neg c]; exact Array.getElem?_setIfInBounds_ne (Ne.symm c)
theorem eval_tmp {a : Act} {t : Nat} {v : Value} (h : a.tmps[t]? = some v) : a.eval (.tmp t) = v := by
  show a.tmps.getD t undef = v
  simp [Array.getD_eq_getD_getElem?, h]
theorem MapHas.ext {w : World} {b : Nat} {f g : Nat → Bool} (h : MapHas w b f) (e : ∀ j, j < 13 → f j = g j) : MapHas w b g := by
  obtain ⟨es, clock, h1, h2, h3⟩ := h
  refine ⟨es, clock, h1, fun x hx => ?_, fun j hj hg => h3 j hj (by rw [e j hj]; exact hg)⟩
  obtain ⟨j, a1, a2, a3⟩ := h2 x hx
  exact ⟨j, a1, by rw [← e j a1]; exact a2, a3⟩

/-- One operation that yields a value without a look at the world. -/
theorem wpOp_value {P : Program} {ops : Array Oper} {Q : Exit → Act → World → Prop} {i : Nat} {o : Oper} {K : Act → World → Prop} {a : Act} {w w' : World} {v : Value} (ho : ops[i]? = some o) (hg : o.guard = none)
    (hr : (execOp a.eval o).run P w = .ok (.value v) w') (hK : K (a.put o.dst v) w') : wpOp P ops Q i K a w := by
  unfold wpOp
  rw [ho]
  simp only [Region.wanted, hg, if_true]
  left
  unfold Oper.wp
  rw [hr]
  exact hK
theorem wpOp_skip {P : Program} {ops : Array Oper} {Q : Exit → Act → World → Prop} {i : Nat} {o : Oper} {K : Act → World → Prop} {a : Act} {w w' : World} (ho : ops[i]? = some o) (hg : o.guard = none)
    (hr : (execOp a.eval o).run P w = .ok .skip w') (hK : K (a.put o.dst undef) w') : wpOp P ops Q i K a w := by
  unfold wpOp
  rw [ho]
  simp only [Region.wanted, hg, if_true]
  left
  unfold Oper.wp
  rw [hr]
  exact hK

theorem run_key {j : Nat} (h : j < 13) (a : Act) (w : World) : (execOp a.eval (hkey j)).run Try.prog w = .ok (.value (keyA j)) w := by
  rcases thirteenN h with e | e | e | e | e | e | e | e | e | e | e | e | e <;> subst e <;> kernel_rfl
theorem run_val {j : Nat} (h : j < 13) (a : Act) (w : World) : (execOp a.eval (hval j)).run Try.prog w = .ok (.value (valA j)) w := by
  rcases thirteenN h with e | e | e | e | e | e | e | e | e | e | e | e | e <;> subst e <;> kernel_rfl
theorem op_40e : (((opsIn Try.f75.body)[40]?).map fun o => o.after[0]?) = some (some { on := 0, ground := .data }) := by kernel_rfl
theorem op_41e : (((opsIn Try.f75.body)[41]?).map fun o => o.after[0]?) = some (some { on := 40, ground := .data }) := by kernel_rfl
theorem run_move {o : Oper} {a : Act} {w : World} {x : Operand} {v : Value} (h : o.op = .move x ∨ o.op = .assign x) (hv : a.eval x = v) : (execOp a.eval o).run Try.prog w = .ok (.value v) w := by
  subst hv
  rcases h with h | h <;> simp [execOp, h]
theorem run_ins {j : Nat} {a : Act} {w w' : World} {x k v : Value} (h1 : a.eval (.tmp 1) = x) (h2 : a.eval (.tmp (2 * j + 2)) = k) (h3 : a.eval (.tmp (2 * j + 3)) = v)
    (hr : (Instr.mapUpdate 70 x k v).run Try.prog w = .ok () w') : (execOp a.eval (hins j)).run Try.prog w = .ok .skip w' := by
  simp [execOp, hins, h1, h2, h3, hr, Result.andThen]

theorem holy_step {W0 : World} {Q : Exit → Act → World → Prop} {listed : Array Bool} {a : Act} {w : World} {i : Nat} (h : HInv W0 listed a w) (hi : i ∈ Region.ready .any (opsIn Try.f75.body) listed) :
    wpOp Try.prog (opsIn Try.f75.body) Q i (HInv W0 (listed.setIfInBounds i true)) a w := by
  obtain ⟨h0, o, ho, hall⟩ := mem_ready.1 hi
  have hi42 : i < 42 := by
    have := (Array.getElem?_eq_some_iff.1 ho).1
    rw [holyOps_size] at this; exact this
  have hil : i < listed.size := by rw [h.size]; exact hi42
  have hz := h.size
  have gl := getD_set hil
  have tl := fun (d : Nat) (hd : d < 29) => tmp_set (ts := a.tmps) (d := d) (by rw [h.tmps]; exact hd)
  have hnot : listed.getD i false = false := by simpa [hil] using h0
  rcases op_all hi42 with rfl | ⟨j, hj, rfl⟩ | ⟨j, hj, rfl⟩ | ⟨j, hj, rfl⟩ | rfl | rfl
  · have hw := h.start hnot
    subst hw
    refine wpOp_value op_0 rfl (v := .map (some w.heap.size)) (w' := w.alloc (.map #[] 0)) rfl ?_
    refine ⟨by simp [hz], by simp [Act.put, hmake, h.tmps], h.defers, ?_, ?_, ?_, ?_, ?_, ?_, ?_⟩
    · intro c; rw [gl] at c; simp at c
    · intro _
      refine ⟨by simp [Act.put, hmake, h.tmps], ⟨#[], 0, ?_, fun e he => by simp at he, ?_⟩, (Below.refl _ _).alloc (Nat.le_refl _) _⟩
      · exact (MapKept.heap_alloc w _).1
      · intro j hj c
        dsimp only at c
        rw [gl, if_neg (by omega)] at c
        have := h.first j c
        rw [this] at hnot; cases hnot
    · intro j c
      rw [gl]; simp
    · intro j hj c
      rw [gl, if_neg (by omega)] at c
      simp only [Act.put, hmake]
      rw [tl 1 (by omega), if_neg (by omega)]
      exact h.keys j hj c
    · intro j hj c
      rw [gl, if_neg (by omega)] at c
      simp only [Act.put, hmake]
      rw [tl 1 (by omega), if_neg (by omega)]
      exact h.vals j hj c
    · intro c
      rw [gl, if_neg (by omega)] at c
      simp only [Act.put, hmake]
      rw [tl 1 (by omega), if_neg (by omega)]
      exact h.last c
    · intro c
      rw [gl, if_neg (by omega)] at c
      simp only [Act.put, hmake]
      rw [tl 1 (by omega), if_neg (by omega)]
      exact h.res c
  · refine wpOp_value (op_key hj) rfl (run_key hj a w) ?_
    refine ⟨by simp [hz], by simp [Act.put, hkey, h.tmps], h.defers, ?_, ?_, ?_, ?_, ?_, ?_, ?_⟩
    · intro c; rw [gl, if_neg (by omega)] at c; exact h.start c
    · intro c
      rw [gl, if_neg (by omega)] at c
      obtain ⟨m1, m2, m3⟩ := h.made c
      refine ⟨?_, m2.ext (fun k hk => by rw [gl, if_neg (by omega)]), m3⟩
      simp only [Act.put, hkey]
      rw [tl _ (by omega), if_neg (by omega)]; exact m1
    · intro k c
      rw [gl, if_neg (by omega)] at c
      rw [gl, if_neg (by omega)]; exact h.first k c
    · intro k hk c
      simp only [Act.put, hkey]
      rw [tl _ (by omega)]
      by_cases e : k = j
      · subst e; rw [if_pos rfl]
      · rw [gl, if_neg (by omega)] at c
        rw [if_neg (by omega)]; exact h.keys k hk c
    · intro k hk c
      rw [gl, if_neg (by omega)] at c
      simp only [Act.put, hkey]
      rw [tl _ (by omega), if_neg (by omega)]; exact h.vals k hk c
    · intro c
      rw [gl, if_neg (by omega)] at c
      simp only [Act.put, hkey]
      rw [tl _ (by omega), if_neg (by omega)]; exact h.last c
    · intro c
      rw [gl, if_neg (by omega)] at c
      simp only [Act.put, hkey]
      rw [tl _ (by omega), if_neg (by omega)]; exact h.res c
  · refine wpOp_value (op_val hj) rfl (run_val hj a w) ?_
    refine ⟨by simp [hz], by simp [Act.put, hval, h.tmps], h.defers, ?_, ?_, ?_, ?_, ?_, ?_, ?_⟩
    · intro c; rw [gl, if_neg (by omega)] at c; exact h.start c
    · intro c
      rw [gl, if_neg (by omega)] at c
      obtain ⟨m1, m2, m3⟩ := h.made c
      refine ⟨?_, m2.ext (fun k hk => by rw [gl, if_neg (by omega)]), m3⟩
      simp only [Act.put, hval]
      rw [tl _ (by omega), if_neg (by omega)]; exact m1
    · intro k c
      rw [gl, if_neg (by omega)] at c
      rw [gl, if_neg (by omega)]; exact h.first k c
    · intro k hk c
      rw [gl, if_neg (by omega)] at c
      simp only [Act.put, hval]
      rw [tl _ (by omega), if_neg (by omega)]; exact h.keys k hk c
    · intro k hk c
      simp only [Act.put, hval]
      rw [tl _ (by omega)]
      by_cases e : k = j
      · subst e; rw [if_pos rfl]
      · rw [gl, if_neg (by omega)] at c
        rw [if_neg (by omega)]; exact h.vals k hk c
    · intro c
      rw [gl, if_neg (by omega)] at c
      simp only [Act.put, hval]
      rw [tl _ (by omega), if_neg (by omega)]; exact h.last c
    · intro c
      rw [gl, if_neg (by omega)] at c
      simp only [Act.put, hval]
      rw [tl _ (by omega), if_neg (by omega)]; exact h.res c
  · have eo : o = hins j := by rw [op_ins hj] at ho; exact (Option.some.inj ho).symm
    subst eo
    have l0 := hall { on := 0, ground := .data } (by simp [hins]) rfl
    have l1 := hall { on := 3 * j + 1, ground := .data } (by simp [hins]) rfl
    have l2 := hall { on := 3 * j + 2, ground := .data } (by simp [hins]) rfl
    dsimp only at l0 l1 l2
    obtain ⟨m1, m2, m3⟩ := h.made l0
    obtain ⟨w', r1, r2, r3⟩ := has_insert m2 m3 (Nat.le_refl _) hj hnot
    refine wpOp_skip (op_ins hj) rfl (run_ins (eval_tmp m1) (eval_tmp (h.keys j hj l1)) (eval_tmp (h.vals j hj l2)) r1) ?_
    refine ⟨by simp [hz], h.tmps, h.defers, ?_, ?_, ?_, ?_, ?_, ?_, ?_⟩
    · intro c; rw [gl, if_neg (by omega), l0] at c; cases c
    · intro _
      refine ⟨m1, r2.ext (fun k hk => ?_), r3⟩
      rw [gl]
      by_cases e : k = j
      · subst e; simp
      · rw [if_neg e, if_neg (by omega)]
    · intro k c
      rw [gl, if_neg (by omega)]; exact l0
    · intro k hk c
      rw [gl, if_neg (by omega)] at c
      exact h.keys k hk c
    · intro k hk c
      rw [gl, if_neg (by omega)] at c
      exact h.vals k hk c
    · intro c
      rw [gl, if_neg (by omega)] at c
      exact h.last c
    · intro c
      rw [gl, if_neg (by omega)] at c
      exact h.res c
  · have e0 := op_40
    rw [ho] at e0
    simp only [Option.map_some, Option.some.injEq, Prod.mk.injEq] at e0
    obtain ⟨e1, e2, e3⟩ := e0
    have f0 := op_40e
    rw [ho] at f0
    simp only [Option.map_some, Option.some.injEq] at f0
    have l0 := hall _ (Array.mem_of_getElem? f0) rfl
    dsimp only at l0
    refine wpOp_value ho e3 (run_move (.inl e2) (eval_tmp (h.made l0).1)) ?_
    refine ⟨by simp [hz], by simp [Act.put, e1, h.tmps], by simp only [Act.put, e1]; exact h.defers, ?_, ?_, ?_, ?_, ?_, ?_, ?_⟩
    · intro c; rw [gl, if_neg (by omega)] at c; exact h.start c
    · intro c
      rw [gl, if_neg (by omega)] at c
      obtain ⟨m1, m2, m3⟩ := h.made c
      refine ⟨?_, m2.ext (fun k hk => by rw [gl, if_neg (by omega)]), m3⟩
      simp only [Act.put, e1]
      rw [tl _ (by omega), if_neg (by omega)]; exact m1
    · intro k c
      rw [gl] at c
      split at c
      · omega
      · rw [gl, if_neg (by omega)]; exact h.first k c
    · intro k hk c
      rw [gl, if_neg (by omega)] at c
      simp only [Act.put, e1]
      rw [tl _ (by omega), if_neg (by omega)]; exact h.keys k hk c
    · intro k hk c
      rw [gl, if_neg (by omega)] at c
      simp only [Act.put, e1]
      rw [tl _ (by omega), if_neg (by omega)]; exact h.vals k hk c
    · intro c
      simp only [Act.put, e1]
      rw [tl _ (by omega), if_pos rfl]
    · intro c
      rw [gl, if_neg (by omega)] at c
      simp only [Act.put, e1]
      rw [tl _ (by omega), if_neg (by omega)]; exact h.res c
  · have e0 := op_41
    rw [ho] at e0
    simp only [Option.map_some, Option.some.injEq, Prod.mk.injEq] at e0
    obtain ⟨e1, e2, e3⟩ := e0
    have f0 := op_41e
    rw [ho] at f0
    simp only [Option.map_some, Option.some.injEq] at f0
    have l0 := hall _ (Array.mem_of_getElem? f0) rfl
    dsimp only at l0
    refine wpOp_value ho e3 (run_move (.inr e2) (eval_tmp (h.last l0))) ?_
    refine ⟨by simp [hz], by simp [Act.put, e1, h.tmps], by simp only [Act.put, e1]; exact h.defers, ?_, ?_, ?_, ?_, ?_, ?_, ?_⟩
    · intro c; rw [gl, if_neg (by omega)] at c; exact h.start c
    · intro c
      rw [gl, if_neg (by omega)] at c
      obtain ⟨m1, m2, m3⟩ := h.made c
      refine ⟨?_, m2.ext (fun k hk => by rw [gl, if_neg (by omega)]), m3⟩
      simp only [Act.put, e1]
      rw [tl _ (by omega), if_neg (by omega)]; exact m1
    · intro k c
      rw [gl] at c
      split at c
      · omega
      · rw [gl, if_neg (by omega)]; exact h.first k c
    · intro k hk c
      rw [gl, if_neg (by omega)] at c
      simp only [Act.put, e1]
      rw [tl _ (by omega), if_neg (by omega)]; exact h.keys k hk c
    · intro k hk c
      rw [gl, if_neg (by omega)] at c
      simp only [Act.put, e1]
      rw [tl _ (by omega), if_neg (by omega)]; exact h.vals k hk c
    · intro c
      rw [gl, if_neg (by omega)] at c
      simp only [Act.put, e1]
      rw [tl _ (by omega), if_neg (by omega)]; exact h.last c
    · intro c
      simp only [Act.put, e1]
      rw [tl _ (by omega), if_pos rfl]

/-- What is laid at the end. -/
theorem holy_end {W0 : World} {listed : Array Bool} {a : Act} {w : World} (h : HInv W0 listed a w) (hr : Region.ready .any (opsIn Try.f75.body) listed = []) :
    a.tmps.size = 29 ∧ a.defers = [] ∧ a.tmps[0]? = some (.map (some W0.heap.size)) ∧ MapHas w W0.heap.size (fun _ => true) ∧ Below W0.heap.size W0 w := by
  have hl := all_listed holyEdges (by rw [holyOps_size]; exact h.size) hr
  rw [holyOps_size] at hl
  obtain ⟨m1, m2, m3⟩ := h.made (hl 0 (by omega))
  exact ⟨h.tmps, h.defers, h.res (hl 41 (by omega)), m2.ext (fun j hj => hl _ (by omega)), m3⟩

theorem holy_start (W0 : World) (a : Act) (ht : a.tmps.size = 29) (hd : a.defers = []) : HInv W0 (Array.replicate 42 false) a W0 := by
  have z : ∀ i, (Array.replicate 42 false).getD i false = false := fun i => by
    by_cases c : i < 42
    · simp [c]
    · simp [Array.getElem?_eq_none, c]
  refine ⟨by simp, ht, hd, fun _ => rfl, ?_, ?_, ?_, ?_, ?_, ?_⟩
  all_goals
    intros
    rename_i c
    rw [z] at c
    cases c

set_option maxHeartbeats 1000000 in
theorem fholies_any (w : World) : Calls Try.prog 75 #[] w fun e w' => e = .returned (.map (some w.heap.size)) ∧ MapHas w' w.heap.size (fun _ => true) ∧ Below w.heap.size w w' := by
  go_enter Try.func75, Try.ntmps75
  go_wp2_with fail
  refine wp_region_any mixedS2 ?_
  refine wpAny_inv (ops := opsIn Try.f75.body) (HInv { w with drawn := w.drawn + 1 }) (fun listed a w' i h hi => holy_step h hi) ?fin _ _ _ _ (by simp) (holy_start _ _ rfl rfl)
  case fin =>
    intro listed a w' h hr
    obtain ⟨z1, z2, z3, z4, z5⟩ := holy_end h hr
    obtain ⟨ts, ds⟩ := a
    simp only at z1 z2 z3
    subst z2
    go_wp2
    exact bodyPost_ret (v := .map (some w.heap.size)) (by simp [results, Try.results75, go_sem, Act.eval, Array.getD_eq_getD_getElem?, z3]) rfl ⟨rfl, z4, ((Below.refl w.heap.size w).drew).trans z5⟩

end Go.Proofs.Ytdjfmcomeaijgaa
