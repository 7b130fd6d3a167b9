/- feast.kind: each operation of its drawn region keeps what is said. -/
import Derived.Test.YtdjfmcomeaijgaaFE
namespace Go.Proofs.Ytdjfmcomeaijgaa
open Go Go.RowKit
set_option linter.unusedVariables false
set_option linter.unusedSimpArgs false

theorem kindBinds : ((opsIn2 Try.f69.body).toList.all fun o => o.after.all fun e => Region.binds .any e) = true := by kernel_rfl

/-- What the slots hold of the operations that only reckon: operation, slot, value. -/
def kslots (b0 : Nat) (m d : Int) : List (Nat × Nat × Value) := [(1, 7, .pointer (some ⟨b0, 1, none⟩)), (2, 8, .int .i64 m), (3, 9, .pointer (some ⟨b0, 2, none⟩)), (4, 10, .int .i64 d), (5, 11, .agg #[.int .i64 m, .int .i64 d]), (6, 12, .agg #[.int .i64 (holyV m d).1, .bool (holyV m d).2])]
structure KInv (W0 : World) (b0 : Nat) (m d : Int) (ab : Bool) (listed : Array Bool) (a : Act) (w : World) : Prop where
  size : listed.size = 9
  tmps : a.tmps.size = 21
  defers : a.defers = []
  below : Below W0.heap.size W0 w
  t1 : a.tmps[1]? = some (.bool ab)
  t2 : a.tmps[2]? = some (.pointer (some ⟨b0, 0, none⟩))
  slots : ∀ x ∈ kslots b0 m d, listed.getD x.1 false = true → a.tmps[x.2.1]? = some x.2.2
  mp : listed.getD 0 false = true → ∃ mb, a.tmps[6]? = some (.map (some mb)) ∧ MapHas w mb (fun _ => true)
  e8 : listed.getD 8 false = true → listed.getD 7 false = true
  bx : listed.getD 7 false = true → listed.getD 8 false = false → ∃ p, W0.heap.size ≤ p ∧ a.tmps[5]? = some (.pointer (some ⟨p, 0, none⟩)) ∧ BlockIs w p #[.int .i64 0, .bool false] 69
  st : listed.getD 8 false = true → ∃ p, W0.heap.size ≤ p ∧ a.tmps[5]? = some (.pointer (some ⟨p, 0, none⟩)) ∧ BlockIs w p #[.int .i64 (holyV m d).1, .bool (holyV m d).2] 69

theorem kslot_tmp {b0 : Nat} {m d : Int} {x : Nat × Nat × Value} (h : x ∈ kslots b0 m d) : x.2.1 = x.1 + 6 ∧ 1 ≤ x.1 ∧ x.1 ≤ 6 := by
  simp only [kslots, List.mem_cons, List.not_mem_nil, or_false] at h
  rcases h with e | e | e | e | e | e <;> subst e <;> exact ⟨rfl, by omega, by omega⟩
theorem kslot_one {b0 : Nat} {m d : Int} {x y : Nat × Nat × Value} (h : x ∈ kslots b0 m d) (h' : y ∈ kslots b0 m d) (e : x.1 = y.1) : x = y := by
  simp only [kslots, List.mem_cons, List.not_mem_nil, or_false] at h h'
  rcases h with h | h | h | h | h | h <;> subst h <;> (rcases h' with h' | h' | h' | h' | h' | h' <;> subst h' <;> first | rfl | (simp at e))

theorem kstep_pure {W0 : World} {b0 : Nat} {m d : Int} {ab : Bool} {listed : Array Bool} {a : Act} {w : World} (h : KInv W0 b0 m d ab listed a w) {x : Nat × Nat × Value} (hx : x ∈ kslots b0 m d) :
    KInv W0 b0 m d ab (listed.setIfInBounds x.1 true) (a.put (some x.2.1) x.2.2) w := by
  obtain ⟨x1, x2, x3⟩ := kslot_tmp hx
  have hz := h.size
  have gl := getD_set (listed := listed) (i := x.1) (by omega)
  have tl := tmp_set (ts := a.tmps) (d := x.2.1) (by rw [h.tmps]; omega) x.2.2
  refine ⟨by simp [hz], by simp [Act.put, h.tmps], h.defers, h.below, ?_, ?_, ?_, ?_, ?_, ?_, ?_⟩
  · simp only [Act.put]; rw [tl, if_neg (by omega)]; exact h.t1
  · simp only [Act.put]; rw [tl, if_neg (by omega)]; exact h.t2
  · intro y hy c
    simp only [Act.put]
    rw [tl]
    by_cases e : y.1 = x.1
    · have := kslot_one hy hx e
      subst this
      rw [if_pos rfl]
    · rw [gl, if_neg e] at c
      have := (kslot_tmp hy).1
      rw [if_neg (by omega)]
      exact h.slots y hy c
  · intro c
    rw [gl, if_neg (by omega)] at c
    simp only [Act.put]; rw [tl, if_neg (by omega)]; exact h.mp c
  · intro c
    rw [gl, if_neg (by omega)] at c
    rw [gl, if_neg (by omega)]; exact h.e8 c
  · intro c c2
    rw [gl, if_neg (by omega)] at c c2
    simp only [Act.put]; rw [tl, if_neg (by omega)]; exact h.bx c c2
  · intro c
    rw [gl, if_neg (by omega)] at c
    simp only [Act.put]; rw [tl, if_neg (by omega)]; exact h.st c

theorem wpOp_calls {P : Program} {ops : Array Oper} {Q : Exit → Act → World → Prop} {i f : Nat} {args : Array Value} {o : Oper} {K : Act → World → Prop} {a : Act} {w : World} {R : Value → World → Prop} (ho : ops[i]? = some o) (hg : o.guard = none)
    (hr : (execOp a.eval o).run P w = .ok (.enter f args) w) (hc : Calls P f args w fun e w' => ∃ v, e = .returned v ∧ R v w') (hK : ∀ v w', R v w' → K (a.put o.dst v) w') : wpOp P ops Q i K a w := by
  unfold wpOp
  rw [ho]
  simp only [Region.wanted, hg, if_true]
  left
  unfold Oper.wp
  rw [hr]
  refine hc.mono ?_
  rintro e w' ⟨v, rfl, hv⟩
  exact hK v w' hv

theorem run_hol {o : Oper} (ho : o.op = .call { callee := .value (.func 75), args := #[], argTypes := #[] }) (a : Act) (w : World) : (execOp a.eval o).run Try.prog w = .ok (.enter 75 #[]) w := by
  unfold execOp
  rw [ho]
  kernel_rfl

theorem kind_step {W0 : World} {b0 : Nat} {m d : Int} {ab : Bool} {Q : Exit → Act → World → Prop} {listed : Array Bool} {a : Act} {w : World} {i : Nat} (hm : (Lit.int .i64 m).wf = true) (hd : (Lit.int .i64 d).wf = true)
    (c1 : W0.cell? ⟨b0, 1, none⟩ = some (.int .i64 m)) (c2 : W0.cell? ⟨b0, 2, none⟩ = some (.int .i64 d)) (h : KInv W0 b0 m d ab listed a w) (hi : i ∈ Region.ready .any (opsIn2 Try.f69.body) listed) :
    wpOp Try.prog (opsIn2 Try.f69.body) Q i (KInv W0 b0 m d ab (listed.setIfInBounds i true)) a w := by
  obtain ⟨h0, o, ho, hall⟩ := mem_ready.1 hi
  have hi9 : i < 9 := by
    have := (Array.getElem?_eq_some_iff.1 ho).1
    rw [kindOps_size] at this; exact this
  have hil : i < listed.size := by rw [h.size]; exact hi9
  have hz := h.size
  have gl := getD_set hil
  have hnot : listed.getD i false = false := by simpa [hil] using h0
  have hon : ∀ (l : List Nat) (k : Nat), o.after.toList.map (·.on) = l → k ∈ l → listed.getD k false = true := by
    intro l k e hk
    rw [← e, List.mem_map] at hk
    obtain ⟨x, hx, rfl⟩ := hk
    refine hall x (Array.mem_toList_iff.1 hx) ?_
    have b1 := List.all_eq_true.1 kindBinds o (Array.mem_toList_iff.2 (Array.mem_of_getElem? ho))
    exact Array.all_eq_true_iff_forall_mem.1 b1 x (Array.mem_toList_iff.1 hx)
  have k1 := (h.below.cell (p := ⟨b0, 1, none⟩) (World.block_lt_of_cell? W0 _ c1)).trans c1
  have k2 := (h.below.cell (p := ⟨b0, 2, none⟩) (World.block_lt_of_cell? W0 _ c2)).trans c2
  have ev := fun (x : Nat × Nat × Value) (hx : x ∈ kslots b0 m d) (c : listed.getD x.1 false = true) => eval_tmp (h.slots x hx c)
  have hi' : i = 0 ∨ i = 1 ∨ i = 2 ∨ i = 3 ∨ i = 4 ∨ i = 5 ∨ i = 6 ∨ i = 7 ∨ i = 8 := by omega
  rcases hi' with e | e | e | e | e | e | e | e | e <;> subst e
  · skip
    have e0 := kop_0
    rw [ho] at e0
    simp only [Option.map_some, Option.some.injEq, Prod.mk.injEq] at e0
    obtain ⟨e1, e2, e3⟩ := e0
    refine wpOp_calls ho e3 (run_hol e2 a w) (R := fun v w' => v = .map (some w.heap.size) ∧ MapHas w' w.heap.size (fun _ => true) ∧ Below w.heap.size w w') ((fholies_any w).mono fun e w' ⟨x1, x2, x3⟩ => ⟨_, x1, rfl, x2, x3⟩) ?_
    rintro v w' ⟨rfl, x2, x3⟩
    have tl := tmp_set (ts := a.tmps) (d := 6) (by rw [h.tmps]; omega) (.map (some w.heap.size))
    rw [e1]
    refine ⟨by simp [hz], by simp [Act.put, h.tmps], h.defers, h.below.trans (x3.mono h.below.size), ?_, ?_, ?_, ?_, ?_, ?_, ?_⟩
    · simp only [Act.put]; rw [tl, if_neg (by omega)]; exact h.t1
    · simp only [Act.put]; rw [tl, if_neg (by omega)]; exact h.t2
    · intro y hy c
      obtain ⟨y1, y2, y3⟩ := kslot_tmp hy
      rw [gl, if_neg (by omega)] at c
      simp only [Act.put]; rw [tl, if_neg (by omega)]; exact h.slots y hy c
    · intro _
      refine ⟨_, ?_, x2⟩
      simp only [Act.put]; rw [tl, if_pos rfl]
    · intro c
      rw [gl, if_neg (by omega)] at c
      rw [gl, if_neg (by omega)]; exact h.e8 c
    · intro c c2
      rw [gl, if_neg (by omega)] at c c2
      obtain ⟨p, p1, p2, p3⟩ := h.bx c c2
      simp only [Act.put]; rw [tl, if_neg (by omega)]; exact ⟨p, p1, p2, p3.kept x3⟩
    · intro c
      rw [gl, if_neg (by omega)] at c
      obtain ⟨p, p1, p2, p3⟩ := h.st c
      simp only [Act.put]; rw [tl, if_neg (by omega)]; exact ⟨p, p1, p2, p3.kept x3⟩
  · skip
    have e0 := kop_1
    rw [ho] at e0
    simp only [Option.map_some, Option.some.injEq, Prod.mk.injEq] at e0
    obtain ⟨e1, e2, e3⟩ := e0
    have X := kstep_pure h (x := (1, 7, Value.pointer (some ⟨b0, 1, none⟩))) (by simp [kslots])
    refine wpOp_value ho e3 (v := Value.pointer (some ⟨b0, 1, none⟩)) (w' := w) ?_ (by rw [e1]; exact X)
    unfold execOp
    rw [e2]
    simp [eval_tmp h.t2, run_fa1, Result.andThen]
  · skip
    have e0 := kop_2
    rw [ho] at e0
    simp only [Option.map_some, Option.some.injEq, Prod.mk.injEq] at e0
    obtain ⟨e1, e2, e3⟩ := e0
    have f0 := ke_2
    rw [ho] at f0
    simp only [Option.map_some, Option.some.injEq] at f0
    have X := kstep_pure h (x := (2, 8, Value.int .i64 m)) (by simp [kslots])
    refine wpOp_value ho e3 (v := Value.int .i64 m) (w' := w) ?_ (by rw [e1]; exact X)
    unfold execOp
    rw [e2]
    have l := hon _ 1 f0 (by simp)
    have q := ev (1, 7, Value.pointer (some ⟨b0, 1, none⟩)) (by simp [kslots]) l
    dsimp only at q
    simp [q, run_ldi k1, Result.andThen]
  · skip
    have e0 := kop_3
    rw [ho] at e0
    simp only [Option.map_some, Option.some.injEq, Prod.mk.injEq] at e0
    obtain ⟨e1, e2, e3⟩ := e0
    have X := kstep_pure h (x := (3, 9, Value.pointer (some ⟨b0, 2, none⟩))) (by simp [kslots])
    refine wpOp_value ho e3 (v := Value.pointer (some ⟨b0, 2, none⟩)) (w' := w) ?_ (by rw [e1]; exact X)
    unfold execOp
    rw [e2]
    simp [eval_tmp h.t2, run_fa2, Result.andThen]
  · skip
    have e0 := kop_4
    rw [ho] at e0
    simp only [Option.map_some, Option.some.injEq, Prod.mk.injEq] at e0
    obtain ⟨e1, e2, e3⟩ := e0
    have f0 := ke_4
    rw [ho] at f0
    simp only [Option.map_some, Option.some.injEq] at f0
    have X := kstep_pure h (x := (4, 10, Value.int .i64 d)) (by simp [kslots])
    refine wpOp_value ho e3 (v := Value.int .i64 d) (w' := w) ?_ (by rw [e1]; exact X)
    unfold execOp
    rw [e2]
    have l := hon _ 3 f0 (by simp)
    have q := ev (3, 9, Value.pointer (some ⟨b0, 2, none⟩)) (by simp [kslots]) l
    dsimp only at q
    simp [q, run_ldi k2, Result.andThen]
  · skip
    have e0 := kop_5
    rw [ho] at e0
    simp only [Option.map_some, Option.some.injEq, Prod.mk.injEq] at e0
    obtain ⟨e1, e2, e3⟩ := e0
    have f0 := ke_5
    rw [ho] at f0
    simp only [Option.map_some, Option.some.injEq] at f0
    have X := kstep_pure h (x := (5, 11, Value.agg #[.int .i64 m, .int .i64 d])) (by simp [kslots])
    refine wpOp_value ho e3 (v := Value.agg #[.int .i64 m, .int .i64 d]) (w' := w) ?_ (by rw [e1]; exact X)
    unfold execOp
    rw [e2]
    have q := ev (2, 8, Value.int .i64 m) (by simp [kslots]) (hon _ 2 f0 (by simp))
    have q2 := ev (4, 10, Value.int .i64 d) (by simp [kslots]) (hon _ 4 f0 (by simp))
    dsimp only at q q2
    simp [q, q2, run_pl, Result.andThen]
  · skip
    have e0 := kop_6
    rw [ho] at e0
    simp only [Option.map_some, Option.some.injEq, Prod.mk.injEq] at e0
    obtain ⟨e1, e2, e3⟩ := e0
    have f0 := ke_6
    rw [ho] at f0
    simp only [Option.map_some, Option.some.injEq] at f0
    have X := kstep_pure h (x := (6, 12, Value.agg #[.int .i64 (holyV m d).1, .bool (holyV m d).2])) (by simp [kslots])
    refine wpOp_value ho e3 (v := Value.agg #[.int .i64 (holyV m d).1, .bool (holyV m d).2]) (w' := w) ?_ (by rw [e1]; exact X)
    unfold execOp
    rw [e2]
    obtain ⟨mb, q0, q1⟩ := h.mp (hon _ 0 f0 (by simp))
    have q2 := ev (5, 11, Value.agg #[.int .i64 m, .int .i64 d]) (by simp [kslots]) (hon _ 5 f0 (by simp))
    dsimp only at q2
    simp [eval_tmp q0, q2, has_lookup q1 hm hd, Result.andThen]
  · skip
    have e0 := kop_7
    rw [ho] at e0
    simp only [Option.map_some, Option.some.injEq, Prod.mk.injEq] at e0
    obtain ⟨e1, e2, e3⟩ := e0
    have tl := tmp_set (ts := a.tmps) (d := 5) (by rw [h.tmps]; omega) (.pointer (some ⟨w.heap.size, 0, none⟩))
    have hb : Below w.heap.size w (w.alloc (.cells #[.int .i64 0, .bool false] 69)) := (Below.refl _ _).alloc (Nat.le_refl _) _
    refine wpOp_value ho e3 (v := .pointer (some ⟨w.heap.size, 0, none⟩)) (w' := w.alloc (.cells #[.int .i64 0, .bool false] 69)) ?_ ?_
    · unfold execOp
      rw [e2]
      simp [run_al, Result.andThen]
    rw [e1]
    refine ⟨by simp [hz], by simp [Act.put, h.tmps], h.defers, h.below.trans (hb.mono h.below.size), ?_, ?_, ?_, ?_, ?_, ?_, ?_⟩
    · simp only [Act.put]; rw [tl, if_neg (by omega)]; exact h.t1
    · simp only [Act.put]; rw [tl, if_neg (by omega)]; exact h.t2
    · intro y hy c
      obtain ⟨y1, y2, y3⟩ := kslot_tmp hy
      rw [gl, if_neg (by omega)] at c
      simp only [Act.put]; rw [tl, if_neg (by omega)]; exact h.slots y hy c
    · intro c
      rw [gl, if_neg (by omega)] at c
      obtain ⟨mb, q0, q1⟩ := h.mp c
      simp only [Act.put]; rw [tl, if_neg (by omega)]; exact ⟨mb, q0, q1.kept hb⟩
    · intro c
      rw [gl, if_pos rfl]
    · intro c c2
      simp only [Act.put]; rw [tl, if_pos rfl]
      exact ⟨_, h.below.size, rfl, BlockIs.new _ _ _⟩
    · intro c
      rw [gl, if_neg (by omega)] at c
      have := h.e8 c
      rw [this] at hnot; cases hnot
  · skip
    have e0 := kop_8
    rw [ho] at e0
    simp only [Option.map_some, Option.some.injEq, Prod.mk.injEq] at e0
    obtain ⟨e1, e2, e3⟩ := e0
    have f0 := ke_8
    rw [ho] at f0
    simp only [Option.map_some, Option.some.injEq] at f0
    have l7 := hon _ 7 f0 (by simp)
    obtain ⟨p, p1, p2, p3⟩ := h.bx l7 hnot
    have q2 := ev (6, 12, Value.agg #[.int .i64 (holyV m d).1, .bool (holyV m d).2]) (by simp [kslots]) (hon _ 6 f0 (by simp))
    dsimp only at q2
    have hB := below_setRow h.below p1 #[.int .i64 (holyV m d).1, .bool (holyV m d).2]
    unfold wpOp
    rw [ho]
    simp only [Region.wanted, e3, if_true]
    left
    refine wp_store_row 69 (.tmp 5) (.tmp 12) e2 p #[.int .i64 (holyV m d).1, .bool (holyV m d).2] (eval_tmp p2) q2 69 #[.int .i64 0, .bool false] p3 holyInfo rfl (by simp [Value.oneCell']) ?_
    rw [e1]
    refine ⟨by simp [hz], h.tmps, h.defers, hB, h.t1, h.t2, ?_, ?_, ?_, ?_, ?_⟩
    · intro y hy c
      obtain ⟨y1, y2, y3⟩ := kslot_tmp hy
      rw [gl, if_neg (by omega)] at c
      exact h.slots y hy c
    · intro c
      rw [gl, if_neg (by omega)] at c
      obtain ⟨mb, q0, q1⟩ := h.mp c
      refine ⟨mb, q0, ?_⟩
      obtain ⟨es, clock, r1, r2⟩ := q1
      refine ⟨es, clock, ?_, r2⟩
      have hne : mb ≠ p := fun x => by
        subst x
        unfold BlockIs at p3
        rw [p3] at r1; cases r1
      exact (setRow_other w p mb _ hne).trans r1
    · intro c
      rw [gl, if_neg (by omega)]; exact l7
    · intro c c2
      rw [gl, if_pos rfl] at c2; cases c2
    · intro c
      exact ⟨p, p1, p2, p3.row _⟩

end Go.Proofs.Ytdjfmcomeaijgaa
