/- Part of the proof of TopHoly. -/
import Derived.Test.YtfnifgppblbjhaaGreatDoorY03
import Derived.Test.YtfnifgppblbjhaaGreatDoorY05
import Derived.Test.YtfnifgppblbjhaaGreatDoorY06
namespace Go.Proofs.YtfnifgppblbjhaaGreatDoor
set_option maxHeartbeats 8000000
open Go Go.RowKit
set_option linter.unusedVariables false
set_option linter.unusedSimpArgs false
def opsIn2 (b : Option Code) : Array Oper := match b with
 | some (.seq _ (.seq (.seq (.region _ ops _) _) _)) => ops
 | _ => #[]
theorem kindOps_size : (opsIn2 Tryz.f30.body).size = 9 := by kernel_rfl
theorem kindEdges : ((opsIn2 Tryz.f30.body).toList.zipIdx.all fun x => x.1.after.all fun e => decide (e.on < x.2)) = true := by kernel_rfl
theorem kop_0 : ((opsIn2 Tryz.f30.body)[0]?).map (fun o => (o.dst, o.op, o.guard)) = some (some 6, .call { callee := .value (.func 66), args := #[], argTypes := #[] }, none) := by kernel_rfl
theorem kop_1 : ((opsIn2 Tryz.f30.body)[1]?).map (fun o => (o.dst, o.op, o.guard)) = some (some 7, .fieldAddr 97 (.tmp 2) 1, none) := by kernel_rfl
theorem kop_2 : ((opsIn2 Tryz.f30.body)[2]?).map (fun o => (o.dst, o.op, o.guard)) = some (some 8, .load 3 (.tmp 7), none) := by kernel_rfl
theorem kop_3 : ((opsIn2 Tryz.f30.body)[3]?).map (fun o => (o.dst, o.op, o.guard)) = some (some 9, .fieldAddr 97 (.tmp 2) 2, none) := by kernel_rfl
theorem kop_4 : ((opsIn2 Tryz.f30.body)[4]?).map (fun o => (o.dst, o.op, o.guard)) = some (some 10, .load 3 (.tmp 9), none) := by kernel_rfl
theorem kop_5 : ((opsIn2 Tryz.f30.body)[5]?).map (fun o => (o.dst, o.op, o.guard)) = some (some 11, .build 154 #[(0, .tmp 8), (1, .tmp 10)], none) := by kernel_rfl
theorem kop_6 : ((opsIn2 Tryz.f30.body)[6]?).map (fun o => (o.dst, o.op, o.guard)) = some (some 12, .lookup 151 (.tmp 6) (.tmp 11) false, none) := by kernel_rfl
theorem kop_7 : ((opsIn2 Tryz.f30.body)[7]?).map (fun o => (o.dst, o.op, o.guard)) = some (some 5, .alloc 150, none) := by kernel_rfl
theorem kop_8 : ((opsIn2 Tryz.f30.body)[8]?).map (fun o => (o.dst, o.op, o.guard)) = some (none, .store 150 (.tmp 5) (.tmp 12), none) := by kernel_rfl
theorem ke_2 : ((opsIn2 Tryz.f30.body)[2]?).map (fun o => o.after.toList.map (·.on)) = some [1] := by kernel_rfl
theorem ke_4 : ((opsIn2 Tryz.f30.body)[4]?).map (fun o => o.after.toList.map (·.on)) = some [3] := by kernel_rfl
theorem ke_5 : ((opsIn2 Tryz.f30.body)[5]?).map (fun o => o.after.toList.map (·.on)) = some [2, 4] := by kernel_rfl
theorem ke_6 : ((opsIn2 Tryz.f30.body)[6]?).map (fun o => o.after.toList.map (·.on)) = some [0, 5] := by kernel_rfl
theorem ke_8 : ((opsIn2 Tryz.f30.body)[8]?).map (fun o => o.after.toList.map (·.on)) = some [7, 6, 0, 0, 1, 2, 3, 4, 5, 6, 7] := by kernel_rfl
theorem run_fa1 (b : Nat) (w : World) : (Instr.fieldAt 97 (.pointer (some ⟨b, 0, none⟩)) 1).run Tryz.prog w = .ok (.pointer (some ⟨b, 1, none⟩)) w := by kernel_rfl
theorem run_fa2 (b : Nat) (w : World) : (Instr.fieldAt 97 (.pointer (some ⟨b, 0, none⟩)) 2).run Tryz.prog w = .ok (.pointer (some ⟨b, 2, none⟩)) w := by kernel_rfl
theorem run_ldi {b o : Nat} {n : Int} {w : World} (h : w.cell? ⟨b, o, none⟩ = some (.int .i64 n)) : (Instr.loadAt 3 (.pointer (some ⟨b, o, none⟩))).run Tryz.prog w = .ok (.int .i64 n) w := by
 simp [go_sem, Instr.loadAt, h]
theorem run_pl (m d : Int) (w : World) : (Instr.build 154 #[(0, .int .i64 m), (1, .int .i64 d)]).run Tryz.prog w = .ok (.agg #[.int .i64 m, .int .i64 d]) w :=
 run_build w _ _ _ (by kernel_rfl)
theorem run_al (w : World) : (Instr.alloc 150 true (.tuple #[])).run Tryz.prog w = .ok (.pointer (some ⟨w.heap.size, 0, none⟩)) (w.alloc (.cells #[.int .i64 0, .bool false] 150)) := by kernel_rfl
theorem holyInfo : (Tryz.prog.info? 150).map (·.size) = some 2 := by kernel_rfl
theorem kindBinds : ((opsIn2 Tryz.f30.body).toList.all fun o => o.after.all fun e => Region.binds .any e) = true := by kernel_rfl
def kslots (b0 : Nat) (m d : Int) : List (Nat × Nat × Value) := [(1, 7, .pointer (some ⟨b0, 1, none⟩)), (2, 8, .int .i64 m), (3, 9, .pointer (some ⟨b0, 2, none⟩)), (4, 10, .int .i64 d), (5, 11, .agg #[.int .i64 m, .int .i64 d]), (6, 12, .agg #[.int .i64 (holyV m d).1, .bool (holyV m d).2])]
structure KInv (W0 : World) (b0 : Nat) (m d : Int) (ab : Bool) (listed : Array Bool) (a : Act) (w : World) : Prop where
 size : listed.size = 9
 tmps : a.tmps.size = 21
 defers : a.defers = []
 below : Below W0.heap.size W0 w
 t1 : a.tmps[1]? = some (.bool ab)
 t2 : a.tmps[2]? = some (.pointer (some ⟨b0, 0, none⟩))
 slots : ∀ x ∈ kslots b0 m d, listed.getD x.1 false = true → a.tmps[x.2.1]? = some x.2.2
 mp : listed.getD 0 false = true → ∃ mb, a.tmps[6]? = some (.map (some mb)) ∧ MapHas w mb (fun _ => true)
 e8 : listed.getD 8 false = true → listed.getD 7 false = true
 bx : listed.getD 7 false = true → listed.getD 8 false = false → ∃ p, W0.heap.size ≤ p ∧ a.tmps[5]? = some (.pointer (some ⟨p, 0, none⟩)) ∧ BlockIs w p #[.int .i64 0, .bool false] 150
 st : listed.getD 8 false = true → ∃ p, W0.heap.size ≤ p ∧ a.tmps[5]? = some (.pointer (some ⟨p, 0, none⟩)) ∧ BlockIs w p #[.int .i64 (holyV m d).1, .bool (holyV m d).2] 150
theorem kslot_tmp {b0 : Nat} {m d : Int} {x : Nat × Nat × Value} (h : x ∈ kslots b0 m d) : x.2.1 = x.1 + 6 ∧ 1 ≤ x.1 ∧ x.1 ≤ 6 := by
 simp only [kslots, List.mem_cons, List.not_mem_nil, or_false] at h
 rcases h with e | e | e | e | e | e <;> subst e <;> exact ⟨rfl, by omega, by omega⟩
theorem kslot_one {b0 : Nat} {m d : Int} {x y : Nat × Nat × Value} (h : x ∈ kslots b0 m d) (h' : y ∈ kslots b0 m d) (e : x.1 = y.1) : x = y := by
 simp only [kslots, List.mem_cons, List.not_mem_nil, or_false] at h h'
 rcases h with h | h | h | h | h | h <;> subst h <;> (rcases h' with h' | h' | h' | h' | h' | h' <;> subst h' <;> first | rfl | (simp at e))
theorem kstep_pure {W0 : World} {b0 : Nat} {m d : Int} {ab : Bool} {listed : Array Bool} {a : Act} {w : World} (h : KInv W0 b0 m d ab listed a w) {x : Nat × Nat × Value} (hx : x ∈ kslots b0 m d) :
  KInv W0 b0 m d ab (listed.setIfInBounds x.1 true) (a.put (some x.2.1) x.2.2) w := by
 obtain ⟨x1, x2, x3⟩ := kslot_tmp hx
 have hz := h.size
 have gl := getD_set (listed := listed) (i := x.1) (by omega)
 have tl := tmp_set (ts := a.tmps) (d := x.2.1) (by rw [h.tmps]; omega) x.2.2
 refine ⟨by simp [hz], by simp [Act.put, h.tmps], h.defers, h.below, ?_, ?_, ?_, ?_, ?_, ?_, ?_⟩
 ·simp only [Act.put]; rw [tl, if_neg (by omega)]; exact h.t1
 ·simp only [Act.put]; rw [tl, if_neg (by omega)]; exact h.t2
 ·intro y hy c
  simp only [Act.put]
  rw [tl]
  by_cases e : y.1 = x.1
  ·have := kslot_one hy hx e
   subst this
   rw [if_pos rfl]
  ·rw [gl, if_neg e] at c
   have := (kslot_tmp hy).1
   rw [if_neg (by omega)]
   exact h.slots y hy c
 ·intro c
  rw [gl, if_neg (by omega)] at c
  simp only [Act.put]; rw [tl, if_neg (by omega)]; exact h.mp c
 ·intro c
  rw [gl, if_neg (by omega)] at c
  rw [gl, if_neg (by omega)]; exact h.e8 c
 ·intro c c2
  rw [gl, if_neg (by omega)] at c c2
  simp only [Act.put]; rw [tl, if_neg (by omega)]; exact h.bx c c2
 ·intro c
  rw [gl, if_neg (by omega)] at c
  simp only [Act.put]; rw [tl, if_neg (by omega)]; exact h.st c
theorem wpOp_calls {P : Program} {ops : Array Oper} {Q : Exit → Act → World → Prop} {i f : Nat} {args : Array Value} {o : Oper} {K : Act → World → Prop} {a : Act} {w : World} {R : Value → World → Prop} (ho : ops[i]? = some o) (hg : o.guard = none)
  (hr : (execOp a.eval o).run P w = .ok (.enter f args) w) (hc : Calls P f args w fun e w' => ∃ v, e = .returned v ∧ R v w') (hK : ∀ v w', R v w' → K (a.put o.dst v) w') : wpOp P ops Q i K a w := by
 unfold wpOp
 rw [ho]
 simp only [Region.wanted, hg, if_true]
 left
 unfold Oper.wp
 rw [hr]
 refine hc.mono ?_
 rintro e w' ⟨v, rfl, hv⟩
 exact hK v w' hv
theorem run_hol {o : Oper} (ho : o.op = .call { callee := .value (.func 66), args := #[], argTypes := #[] }) (a : Act) (w : World) : (execOp a.eval o).run Tryz.prog w = .ok (.enter 66 #[]) w := by
 unfold execOp
 rw [ho]
 kernel_rfl
theorem kind_step {W0 : World} {b0 : Nat} {m d : Int} {ab : Bool} {Q : Exit → Act → World → Prop} {listed : Array Bool} {a : Act} {w : World} {i : Nat} (hm : (Lit.int .i64 m).wf = true) (hd : (Lit.int .i64 d).wf = true)
  (c1 : W0.cell? ⟨b0, 1, none⟩ = some (.int .i64 m)) (c2 : W0.cell? ⟨b0, 2, none⟩ = some (.int .i64 d)) (h : KInv W0 b0 m d ab listed a w) (hi : i ∈ Region.ready .any (opsIn2 Tryz.f30.body) listed) :
  wpOp Tryz.prog (opsIn2 Tryz.f30.body) Q i (KInv W0 b0 m d ab (listed.setIfInBounds i true)) a w := by
 obtain ⟨h0, o, ho, hall⟩ := mem_ready.1 hi
 have hi9 : i < 9 := by
  have := (Array.getElem?_eq_some_iff.1 ho).1
  rw [kindOps_size] at this; exact this
 have hil : i < listed.size := by rw [h.size]; exact hi9
 have hz := h.size
 have gl := getD_set hil
 have hnot : listed.getD i false = false := by simpa [hil] using h0
 have hon : ∀ (l : List Nat) (k : Nat), o.after.toList.map (·.on) = l → k ∈ l → listed.getD k false = true := by
  intro l k e hk
  rw [← e, List.mem_map] at hk
  obtain ⟨x, hx, rfl⟩ := hk
  refine hall x (Array.mem_toList_iff.1 hx) ?_
  have b1 := List.all_eq_true.1 kindBinds o (Array.mem_toList_iff.2 (Array.mem_of_getElem? ho))
  exact Array.all_eq_true_iff_forall_mem.1 b1 x (Array.mem_toList_iff.1 hx)
 have k1 := (h.below.cell (p := ⟨b0, 1, none⟩) (World.block_lt_of_cell? W0 _ c1)).trans c1
 have k2 := (h.below.cell (p := ⟨b0, 2, none⟩) (World.block_lt_of_cell? W0 _ c2)).trans c2
 have ev := fun (x : Nat × Nat × Value) (hx : x ∈ kslots b0 m d) (c : listed.getD x.1 false = true) => eval_tmp (h.slots x hx c)
 have hi' : i = 0 ∨ i = 1 ∨ i = 2 ∨ i = 3 ∨ i = 4 ∨ i = 5 ∨ i = 6 ∨ i = 7 ∨ i = 8 := by omega
 rcases hi' with e | e | e | e | e | e | e | e | e <;> subst e
 ·skip
  have e0 := kop_0
  rw [ho] at e0
  simp only [Option.map_some, Option.some.injEq, Prod.mk.injEq] at e0
  obtain ⟨e1, e2, e3⟩ := e0
  refine wpOp_calls ho e3 (run_hol e2 a w) (R := fun v w' => v = .map (some w.heap.size) ∧ MapHas w' w.heap.size (fun _ => true) ∧ Below w.heap.size w w') ((fholies_any w).mono fun e w' ⟨x1, x2, x3⟩ => ⟨_, x1, rfl, x2, x3⟩) ?_
  rintro v w' ⟨rfl, x2, x3⟩
  have tl := tmp_set (ts := a.tmps) (d := 6) (by rw [h.tmps]; omega) (.map (some w.heap.size))
  rw [e1]
  refine ⟨by simp [hz], by simp [Act.put, h.tmps], h.defers, h.below.trans (x3.mono h.below.size), ?_, ?_, ?_, ?_, ?_, ?_, ?_⟩
  ·simp only [Act.put]; rw [tl, if_neg (by omega)]; exact h.t1
  ·simp only [Act.put]; rw [tl, if_neg (by omega)]; exact h.t2
  ·intro y hy c
   obtain ⟨y1, y2, y3⟩ := kslot_tmp hy
   rw [gl, if_neg (by omega)] at c
   simp only [Act.put]; rw [tl, if_neg (by omega)]; exact h.slots y hy c
  ·intro _
   refine ⟨_, ?_, x2⟩
   simp only [Act.put]; rw [tl, if_pos rfl]
  ·intro c
   rw [gl, if_neg (by omega)] at c
   rw [gl, if_neg (by omega)]; exact h.e8 c
  ·intro c c2
   rw [gl, if_neg (by omega)] at c c2
   obtain ⟨p, p1, p2, p3⟩ := h.bx c c2
   simp only [Act.put]; rw [tl, if_neg (by omega)]; exact ⟨p, p1, p2, p3.kept x3⟩
  ·intro c
   rw [gl, if_neg (by omega)] at c
   obtain ⟨p, p1, p2, p3⟩ := h.st c
   simp only [Act.put]; rw [tl, if_neg (by omega)]; exact ⟨p, p1, p2, p3.kept x3⟩
 ·skip
  have e0 := kop_1
  rw [ho] at e0
  simp only [Option.map_some, Option.some.injEq, Prod.mk.injEq] at e0
  obtain ⟨e1, e2, e3⟩ := e0
  have X := kstep_pure h (x := (1, 7, Value.pointer (some ⟨b0, 1, none⟩))) (by simp [kslots])
  refine wpOp_value ho e3 (v := Value.pointer (some ⟨b0, 1, none⟩)) (w' := w) ?_ (by rw [e1]; exact X)
  unfold execOp
  rw [e2]
  simp [eval_tmp h.t2, run_fa1, Result.andThen]
 ·skip
  have e0 := kop_2
  rw [ho] at e0
  simp only [Option.map_some, Option.some.injEq, Prod.mk.injEq] at e0
  obtain ⟨e1, e2, e3⟩ := e0
  have f0 := ke_2
  rw [ho] at f0
  simp only [Option.map_some, Option.some.injEq] at f0
  have X := kstep_pure h (x := (2, 8, Value.int .i64 m)) (by simp [kslots])
  refine wpOp_value ho e3 (v := Value.int .i64 m) (w' := w) ?_ (by rw [e1]; exact X)
  unfold execOp
  rw [e2]
  have l := hon _ 1 f0 (by simp)
  have q := ev (1, 7, Value.pointer (some ⟨b0, 1, none⟩)) (by simp [kslots]) l
  dsimp only at q
  simp [q, run_ldi k1, Result.andThen]
 ·skip
  have e0 := kop_3
  rw [ho] at e0
  simp only [Option.map_some, Option.some.injEq, Prod.mk.injEq] at e0
  obtain ⟨e1, e2, e3⟩ := e0
  have X := kstep_pure h (x := (3, 9, Value.pointer (some ⟨b0, 2, none⟩))) (by simp [kslots])
  refine wpOp_value ho e3 (v := Value.pointer (some ⟨b0, 2, none⟩)) (w' := w) ?_ (by rw [e1]; exact X)
  unfold execOp
  rw [e2]
  simp [eval_tmp h.t2, run_fa2, Result.andThen]
 ·skip
  have e0 := kop_4
  rw [ho] at e0
  simp only [Option.map_some, Option.some.injEq, Prod.mk.injEq] at e0
  obtain ⟨e1, e2, e3⟩ := e0
  have f0 := ke_4
  rw [ho] at f0
  simp only [Option.map_some, Option.some.injEq] at f0
  have X := kstep_pure h (x := (4, 10, Value.int .i64 d)) (by simp [kslots])
  refine wpOp_value ho e3 (v := Value.int .i64 d) (w' := w) ?_ (by rw [e1]; exact X)
  unfold execOp
  rw [e2]
  have l := hon _ 3 f0 (by simp)
  have q := ev (3, 9, Value.pointer (some ⟨b0, 2, none⟩)) (by simp [kslots]) l
  dsimp only at q
  simp [q, run_ldi k2, Result.andThen]
 ·skip
  have e0 := kop_5
  rw [ho] at e0
  simp only [Option.map_some, Option.some.injEq, Prod.mk.injEq] at e0
  obtain ⟨e1, e2, e3⟩ := e0
  have f0 := ke_5
  rw [ho] at f0
  simp only [Option.map_some, Option.some.injEq] at f0
  have X := kstep_pure h (x := (5, 11, Value.agg #[.int .i64 m, .int .i64 d])) (by simp [kslots])
  refine wpOp_value ho e3 (v := Value.agg #[.int .i64 m, .int .i64 d]) (w' := w) ?_ (by rw [e1]; exact X)
  unfold execOp
  rw [e2]
  have q := ev (2, 8, Value.int .i64 m) (by simp [kslots]) (hon _ 2 f0 (by simp))
  have q2 := ev (4, 10, Value.int .i64 d) (by simp [kslots]) (hon _ 4 f0 (by simp))
  dsimp only at q q2
  simp [q, q2, run_pl, Result.andThen]
 ·skip
  have e0 := kop_6
  rw [ho] at e0
  simp only [Option.map_some, Option.some.injEq, Prod.mk.injEq] at e0
  obtain ⟨e1, e2, e3⟩ := e0
  have f0 := ke_6
  rw [ho] at f0
  simp only [Option.map_some, Option.some.injEq] at f0
  have X := kstep_pure h (x := (6, 12, Value.agg #[.int .i64 (holyV m d).1, .bool (holyV m d).2])) (by simp [kslots])
  refine wpOp_value ho e3 (v := Value.agg #[.int .i64 (holyV m d).1, .bool (holyV m d).2]) (w' := w) ?_ (by rw [e1]; exact X)
  unfold execOp
  rw [e2]
  obtain ⟨mb, q0, q1⟩ := h.mp (hon _ 0 f0 (by simp))
  have q2 := ev (5, 11, Value.agg #[.int .i64 m, .int .i64 d]) (by simp [kslots]) (hon _ 5 f0 (by simp))
  dsimp only at q2
  simp [eval_tmp q0, q2, has_lookup q1 hm hd, Result.andThen]
 ·skip
  have e0 := kop_7
  rw [ho] at e0
  simp only [Option.map_some, Option.some.injEq, Prod.mk.injEq] at e0
  obtain ⟨e1, e2, e3⟩ := e0
  have tl := tmp_set (ts := a.tmps) (d := 5) (by rw [h.tmps]; omega) (.pointer (some ⟨w.heap.size, 0, none⟩))
  have hb : Below w.heap.size w (w.alloc (.cells #[.int .i64 0, .bool false] 150)) := (Below.refl _ _).alloc (Nat.le_refl _) _
  refine wpOp_value ho e3 (v := .pointer (some ⟨w.heap.size, 0, none⟩)) (w' := w.alloc (.cells #[.int .i64 0, .bool false] 150)) ?_ ?_
  ·unfold execOp
   rw [e2]
   simp [run_al, Result.andThen]
  rw [e1]
  refine ⟨by simp [hz], by simp [Act.put, h.tmps], h.defers, h.below.trans (hb.mono h.below.size), ?_, ?_, ?_, ?_, ?_, ?_, ?_⟩
  ·simp only [Act.put]; rw [tl, if_neg (by omega)]; exact h.t1
  ·simp only [Act.put]; rw [tl, if_neg (by omega)]; exact h.t2
  ·intro y hy c
   obtain ⟨y1, y2, y3⟩ := kslot_tmp hy
   rw [gl, if_neg (by omega)] at c
   simp only [Act.put]; rw [tl, if_neg (by omega)]; exact h.slots y hy c
  ·intro c
   rw [gl, if_neg (by omega)] at c
   obtain ⟨mb, q0, q1⟩ := h.mp c
   simp only [Act.put]; rw [tl, if_neg (by omega)]; exact ⟨mb, q0, q1.kept hb⟩
  ·intro c
   rw [gl, if_pos rfl]
  ·intro c c2
   simp only [Act.put]; rw [tl, if_pos rfl]
   exact ⟨_, h.below.size, rfl, BlockIs.new _ _ _⟩
  ·intro c
   rw [gl, if_neg (by omega)] at c
   have := h.e8 c
   rw [this] at hnot; cases hnot
 ·skip
  have e0 := kop_8
  rw [ho] at e0
  simp only [Option.map_some, Option.some.injEq, Prod.mk.injEq] at e0
  obtain ⟨e1, e2, e3⟩ := e0
  have f0 := ke_8
  rw [ho] at f0
  simp only [Option.map_some, Option.some.injEq] at f0
  have l7 := hon _ 7 f0 (by simp)
  obtain ⟨p, p1, p2, p3⟩ := h.bx l7 hnot
  have q2 := ev (6, 12, Value.agg #[.int .i64 (holyV m d).1, .bool (holyV m d).2]) (by simp [kslots]) (hon _ 6 f0 (by simp))
  dsimp only at q2
  have hB := below_setRow h.below p1 #[.int .i64 (holyV m d).1, .bool (holyV m d).2]
  unfold wpOp
  rw [ho]
  simp only [Region.wanted, e3, if_true]
  left
  refine wp_store_row 150 (.tmp 5) (.tmp 12) e2 p #[.int .i64 (holyV m d).1, .bool (holyV m d).2] (eval_tmp p2) q2 150 #[.int .i64 0, .bool false] p3 holyInfo rfl (by simp [Value.oneCell']) ?_
  rw [e1]
  refine ⟨by simp [hz], h.tmps, h.defers, hB, h.t1, h.t2, ?_, ?_, ?_, ?_, ?_⟩
  ·intro y hy c
   obtain ⟨y1, y2, y3⟩ := kslot_tmp hy
   rw [gl, if_neg (by omega)] at c
   exact h.slots y hy c
  ·intro c
   rw [gl, if_neg (by omega)] at c
   obtain ⟨mb, q0, q1⟩ := h.mp c
   refine ⟨mb, q0, ?_⟩
   obtain ⟨es, clock, r1, r2⟩ := q1
   refine ⟨es, clock, ?_, r2⟩
   have hne : mb ≠ p := fun x => by
    subst x
    unfold BlockIs at p3
    rw [p3] at r1; cases r1
   exact (setRow_other w p mb _ hne).trans r1
  ·intro c
   rw [gl, if_neg (by omega)]; exact l7
  ·intro c c2
   rw [gl, if_pos rfl] at c2; cases c2
  ·intro c
   exact ⟨p, p1, p2, p3.row _⟩
theorem list21 {l : List Value} (h : l.length = 21) : ∃ a0 a1 a2 a3 a4 a5 a6 a7 a8 a9 a10 a11 a12 a13 a14 a15 a16 a17 a18 a19 a20, l = [a0, a1, a2, a3, a4, a5, a6, a7, a8, a9, a10, a11, a12, a13, a14, a15, a16, a17, a18, a19, a20] := by
 match l, h with
 | [a0, a1, a2, a3, a4, a5, a6, a7, a8, a9, a10, a11, a12, a13, a14, a15, a16, a17, a18, a19, a20], _ => exact ⟨a0, a1, a2, a3, a4, a5, a6, a7, a8, a9, a10, a11, a12, a13, a14, a15, a16, a17, a18, a19, a20, rfl⟩
theorem kind_end {W0 : World} {b0 : Nat} {m d : Int} {ab : Bool} {listed : Array Bool} {a : Act} {w : World} (h : KInv W0 b0 m d ab listed a w) (hr : Region.ready .any (opsIn2 Tryz.f30.body) listed = []) :
  ∃ p, W0.heap.size ≤ p ∧ a.tmps[5]? = some (.pointer (some ⟨p, 0, none⟩)) ∧ BlockIs w p #[.int .i64 (holyV m d).1, .bool (holyV m d).2] 150 := by
 have hl := all_listed kindEdges (by rw [kindOps_size]; exact h.size) hr
 rw [kindOps_size] at hl
 exact h.st (hl 8 (by omega))
theorem kind_start {W0 : World} {b0 : Nat} {m d : Int} {ab : Bool} {a : Act} (ht : a.tmps.size = 21) (hd : a.defers = []) (h1 : a.tmps[1]? = some (.bool ab)) (h2 : a.tmps[2]? = some (.pointer (some ⟨b0, 0, none⟩))) : KInv W0 b0 m d ab (Array.replicate 9 false) a W0 := by
 have z : ∀ i, (Array.replicate 9 false).getD i false = false := fun i => by
  by_cases c : i < 9
  ·simp [c]
  ·simp [Array.getElem?_eq_none, c]
 refine ⟨by simp, ht, hd, Below.refl _ _, h1, h2, ?_, ?_, ?_, ?_, ?_⟩
 ·intro x _ c; rw [z] at c; cases c
 ·intro c; rw [z] at c; cases c
 ·intro c; rw [z] at c; cases c
 ·intro c; rw [z] at c; cases c
 ·intro c; rw [z] at c; cases c
theorem fkind_ok (y m d k : Int) (ab : Bool) (w : World) (hm : (Lit.int .i64 m).wf = true) (hd : (Lit.int .i64 d).wf = true) (hk : kindV m d ab = k) :
  Calls Tryz.prog 30 #[.agg #[.int .i64 y, .int .i64 m, .int .i64 d], .bool ab] w fun e w' => e = .returned (.int .i64 k) ∧ Below w.heap.size w w' := by
 have hA := ((Below.refl w.heap.size w).alloc (Nat.le_refl _) (.cells #[.int .i64 y, .int .i64 m, .int .i64 d] 97)).drew
 have kA := (BlockIs.new w #[.int .i64 y, .int .i64 m, .int .i64 d] 97).drew
 have HK := Lib.hid hk
 clear hk
 go_enter Tryz.func30, Tryz.ntmps30
 go_wp2_with fail
 refine wp_region_any mixedS2 ?_
 refine wpAny_inv (ops := opsIn2 Tryz.f30.body) (KInv (w.alloc (.cells #[.int .i64 y, .int .i64 m, .int .i64 d] 97)).drew w.heap.size m d ab) (fun listed a w' i h hi => kind_step hm hd (kA.cell rfl) (kA.cell rfl) h hi) ?fin _ _ _ _ (by simp) (kind_start rfl rfl rfl rfl)
 case fin =>
  intro listed a w' h hr
  obtain ⟨p, p1, p2, p3⟩ := kind_end h hr
  have t1 := h.t1
  have t2 := h.t2
  have hz := h.tmps
  have hds := h.defers
  have hB := Lib.hid (hA.trans (h.below.mono hA.size))
  have q0 : w'.cell? ⟨p, 0, none⟩ = some (.int .i64 (holyV m d).1) := p3.cell rfl
  have q1 : w'.cell? ⟨p, 1, none⟩ = some (.bool (holyV m d).2) := p3.cell rfl
  have HK2 := Lib.hid (show (if (ab || !(holyV m d).2) = true then (holyV m d).1 else 0) = k from HK.out)
  clear h p3 HK hA kA hr
  generalize (holyV m d).1 = K at *
  generalize (holyV m d).2 = X at *
  obtain ⟨ts, ds⟩ := a
  obtain ⟨ts⟩ := ts
  simp only at t1 t2 hz hds p2
  obtain ⟨a0, a1, a2, a3, a4, a5, a6, a7, a8, a9, a10, a11, a12, a13, a14, a15, a16, a17, a18, a19, a20, rfl⟩ := list21 (l := ts) (by simpa using hz)
  subst hds
  simp at t1 t2 p2
  subst t1 t2 p2
  cases ab <;> cases X
  all_goals
   go_wp2
   go_ret
   exact ⟨one (by rw [← HK2.out]; rfl), hB.out⟩
theorem wf64 {n : Int} (h : I64 n) : (Lit.int .i64 n).wf = true := by
 unfold I64 at h
 simp [Lit.wf, IntKind.min, IntKind.max, IntKind.signed, IntKind.bits]
 omega
theorem may_wf {h m d : Int} (c : HMay h m d) : (Lit.int .i64 m).wf = true ∧ (Lit.int .i64 d).wf = true := by
 obtain ⟨_, m1, m2, d1, d2⟩ := c.yr
 exact ⟨wf64 (by unfold I64; omega), wf64 (by unfold I64; omega)⟩
theorem fRest_any (n : Int) (ab r : Bool) (w : World) (hn : I64 n) (hr : r = true ↔ RestP n ab) : Calls Tryz.prog 10 #[.int .i64 n, .bool ab] w fun e w' => e = .returned (.bool r) ∧ Below w.heap.size w w' := by
 obtain ⟨k, hk, _⟩ := kindN_ex n ab
 have hrk := rest_kind hk
 rcases hk with ⟨c, rfl⟩ | ⟨h, m, d, c, e, hk⟩
 ·have r0 : r = false := by
   rcases Bool.eq_false_or_eq_true r with x | x
   ·exact absurd (hr.1 x) (restP_no c ab)
   ·exact x
  subst r0
  have C := Lib.hid c
  clear c hr hrk
  go_enter Tryz.func10, Tryz.ntmps10
  go_wp2_with fail
  refine (hof_no _ _ C.out).mono ?_; rintro e w1 ⟨rfl, hb⟩
  go_wp2
  go_ret
  exact ⟨rfl, hb.alloc hb.size _⟩
 ·obtain ⟨v1, v2⟩ := may_wf c
  have hl := hnum_last c
  have hr2 : r = true ↔ (n % 7 = 6 ∨ k ≠ 0) := by rw [hr, hrk]; constructor; exact fun x => x.2; exact fun x => ⟨by omega, x⟩
  clear hr hrk
  by_cases c6 : n % 7 = 6
  ·have r1 : r = true := hr2.2 (.inl c6)
   subst r1
   have h6 : (n % 7 == 6) = true := beq_iff_eq.2 c6
   clear hr2 c6
   go_enter Tryz.func10, Tryz.ntmps10
   go_wp2_with fail
   refine (hof_at _ c e).mono ?_; rintro e w1 ⟨rfl, hb⟩
   have hB := Lib.hid (hb.alloc hb.size (.cells #[.int .i64 h, .int .i64 m, .int .i64 d] 97))
   go_wp2_with fail
   refine (weekday_any _ _ hn).mono ?_; rintro e w' ⟨rfl, rfl⟩
   go_wp2_with fail
   go_ret
   exact ⟨rfl, hB.out⟩
  ·have h6 : (n % 7 == 6) = false := beq_eq_false_iff_ne.2 c6
   have hr3 : r = (k != 0) := by
    rcases Bool.eq_false_or_eq_true r with x | x
    ·rw [x]; have := hr2.1 x; simp; omega
    ·rw [x]
     have : k = 0 := by
      refine Classical.byContradiction fun q => ?_
      have := hr2.2 (.inr q)
      rw [x] at this; cases this
     rw [this]; rfl
   subst hr3
   clear hr2 c6
   go_enter Tryz.func10, Tryz.ntmps10
   go_wp2_with fail
   refine (hof_at _ c e).mono ?_; rintro e w1 ⟨rfl, hb⟩
   have hB := hb.alloc hb.size (.cells #[.int .i64 h, .int .i64 m, .int .i64 d] 97)
   have k1 := BlockIs.new w1 #[.int .i64 h, .int .i64 m, .int .i64 d] 97
   have z0 := k1.cell (i := 0) (v := .int .i64 h) rfl
   have z1 := k1.cell (i := 1) (v := .int .i64 m) rfl
   have z2 := k1.cell (i := 2) (v := .int .i64 d) rfl
   clear k1
   go_wp2_with fail
   refine (weekday_any _ _ hn).mono ?_; rintro e w' ⟨rfl, rfl⟩
   go_wp2_with fail
   refine (fkind_ok _ _ _ k ab _ v1 v2 hk).mono ?_; rintro e w2 ⟨rfl, hb2⟩
   have HB := Lib.hid (hB.trans (hb2.mono hB.size))
   clear hb hB hb2 z0 z1 z2
   go_wp2
   go_ret
   exact ⟨rfl, HB.out⟩
theorem fRest_yes (n : Int) (ab : Bool) (w : World) (hn : I64 n) (hr : RestP n ab) : Calls Tryz.prog 10 #[.int .i64 n, .bool ab] w fun e w' => e = .returned (.bool true) ∧ Below w.heap.size w w' :=
 fRest_any n ab true w hn ⟨fun _ => hr, fun _ => rfl⟩
theorem fRest_no (n : Int) (ab : Bool) (w : World) (hn : I64 n) (hr : ¬ RestP n ab) : Calls Tryz.prog 10 #[.int .i64 n, .bool ab] w fun e w' => e = .returned (.bool false) ∧ Below w.heap.size w w' :=
 fRest_any n ab false w hn ⟨fun x => (nomatch x), fun x => absurd x hr⟩
theorem fend_any (n by' at' : Int) (ab : Bool) (bn ba : Nat) (w : World) (hN : BlockIs w bn #[.int .i64 n] 3) (hA : BlockIs w ba #[.bool ab] 4) (j : Nat) (hj : j ≤ 3) (hat : at' = n + j * by') (hby : by' = 1 ∨ by' = -1) (hn : -3000000 ≤ n ∧ n ≤ 5000000)
  (hin : ∀ i : Nat, 1 ≤ i → i ≤ j → RestP (n + i * by') ab) (hout : ¬ RestP (at' + by') ab) :
  Calls Tryz.prog 334 #[.int .i64 by', .pointer (some ⟨bn, 0, none⟩), .pointer (some ⟨ba, 0, none⟩)] w fun e w' => e = .returned (.int .i64 at') ∧ Below w.heap.size w w' := by
 have n0 : w.cell? ⟨bn, 0, none⟩ = some (.int .i64 n) := hN.cell rfl
 have HI := Lib.hid hin
 have HO := Lib.hid hout
 have HT := Lib.hid hat
 clear hin hout hat
 go_enter Tryz.func334, Tryz.ntmps334
 go_wp2_with fail
 go_loopw [5] (fun x wr => ∃ i : Nat, i ≤ j ∧ x = .int .i64 (n + i * by') ∧ BlockIs wr ba #[.bool ab] 4 ∧ Below w.heap.size w wr) (fun x _ => (if by' = 1 then (n + j - intOf x).toNat else (intOf x - n + j).toNat))
 case atStart => exact ⟨0, by omega, by simp, hA, Below.refl _ _⟩
 case round =>
  obtain ⟨i, hi, rfl, hA, hB⟩ := hrel
  have a0 : wr.cell? ⟨ba, 0, none⟩ = some (.bool ab) := hA.cell rfl
  have hby2 : (i : Int) * by' = i ∨ (i : Int) * by' = -i := by rcases hby with e | e <;> subst e <;> omega
  have hs : ((i + 1 : Nat) : Int) * by' = i * by' + by' := by rcases hby with e | e <;> subst e <;> omega
  have hS := Lib.hid hs
  have hsum := Lib.hid (show n + (i : Int) * by' + by' = n + ((i + 1 : Nat) : Int) * by' by rw [hs]; omega)
  generalize hX : n + (i : Int) * by' = X at *
  have hx1 : -3000010 ≤ X := by omega
  have hx2 : X ≤ 5000010 := by omega
  by_cases c : i < j
  ·have hr := Lib.hid (show RestP (X + by') ab by rw [hsum.out]; exact HI.out (i + 1) (by omega) (by omega))
   clear hs
   rcases hby with rfl | rfl
   all_goals
    go_wp2_with fail
    refine (fRest_yes _ ab _ (by unfold I64; omega) hr.out).mono ?_; rintro e w2 ⟨rfl, hb⟩
    have hA2 := hA.kept hb
    have hB2 := hB.trans (hb.mono hB.size)
    clear hb
    go_wp2_with fail
    go_round
    case rel => exact ⟨i + 1, by omega, by rw [← hsum.out], hA2, hB2⟩
    case measure => simp [intOf]; omega
  ·have e : i = j := by omega
   subst e
   have hq : X = at' := by rw [← hX, HT.out]
   have hr := Lib.hid (show ¬ RestP (X + by') ab by rw [hq]; exact HO.out)
   have hX2 := Lib.hid hq
   clear hs hq
   rcases hby with rfl | rfl
   all_goals
    go_wp2_with fail
    refine (fRest_no _ ab _ (by unfold I64; omega) hr.out).mono ?_; rintro e w2 ⟨rfl, hb⟩
    have hB2 := Lib.hid (hB.trans (hb.mono hB.size))
    clear hb
    go_wp2
    go_ret
    exact ⟨one hX2.out, hB2.out⟩
theorem restP_bd {n : Int} {ab : Bool} (h : RestP n ab) : -2000000 ≤ n ∧ n ≤ 4000000 := by
 obtain ⟨h', m, d, c, e, _⟩ := h
 have l := hnum_last c
 have b1 := ny_bd 3762 (by omega) (by omega)
 have b2 := ny_bd 9999 (by omega) (by omega)
 have b3 := ylen_bd (h := 9999) ⟨by omega, by omega⟩
 omega
theorem fRun_no (n : Int) (ab : Bool) (w : World) (hn : I64 n) (hr : ¬ RestP n ab) : Calls Tryz.prog 332 #[.int .i64 n, .bool ab] w fun e w' => e = .returned (.tuple #[.int .i64 0, .int .i64 0, .int .i64 51]) ∧ Below w.heap.size w w' := by
 have HR := Lib.hid hr
 clear hr
 go_enter Tryz.func332, Tryz.ntmps332
 go_wp2_with fail
 have hA := ((Below.refl w.heap.size w).alloc (Nat.le_refl _) (.cells #[.int .i64 n] 3)).alloc (by simp) (.cells #[.bool ab] 4)
 refine (fRest_no _ ab _ hn HR.out).mono ?_; rintro e w1 ⟨rfl, hb⟩
 have HB := Lib.hid (hA.trans (hb.mono hA.size))
 clear hA hb
 go_wp2
 go_ret3
 exact ⟨rfl, HB.out⟩
theorem fRun_ok (n a b : Int) (ab : Bool) (w : World) (h1 : a ≤ n) (h2 : n ≤ b) (h3 : b - a ≤ 2) (hin : ∀ x, a ≤ x → x ≤ b → RestP x ab) (ha : ¬ RestP (a - 1) ab) (hb : ¬ RestP (b + 1) ab) :
  Calls Tryz.prog 332 #[.int .i64 n, .bool ab] w fun e w' => e = .returned (.tuple #[.int .i64 a, .int .i64 b, .int .i64 0]) ∧ Below w.heap.size w w' := by
 have hr := hin n h1 h2
 have bd := restP_bd hr
 have HR := Lib.hid hr
 have HI := Lib.hid hin
 have HA := Lib.hid ha
 have HB0 := Lib.hid hb
 clear hr hin ha hb
 go_enter Tryz.func332, Tryz.ntmps332
 go_wp2_with fail
 have hA := ((Below.refl w.heap.size w).alloc (Nat.le_refl _) (.cells #[.int .i64 n] 3)).alloc (by simp) (.cells #[.bool ab] 4)
 have kN := (BlockIs.new w #[.int .i64 n] 3).alloc (.cells #[.bool ab] 4)
 have kA := BlockIs.new (w.alloc (.cells #[.int .i64 n] 3)) #[.bool ab] 4
 rw [World.size_alloc] at kA
 refine (fRest_yes _ ab _ (by unfold I64; omega) HR.out).mono ?_; rintro e w1 ⟨rfl, hb⟩
 have hB1 := hA.trans (hb.mono hA.size)
 have kN1 := kN.kept hb
 have kA1 := kA.kept hb
 clear hA hb kN kA
 go_wp2_with fail
 refine (fend_any n (-1) a ab _ _ _ kN1 kA1 (n - a).toNat (by omega) (by omega) (.inr rfl) ⟨by omega, by omega⟩ (fun i i1 i2 => HI.out _ (by omega) (by omega)) (by rw [show a + -1 = a - 1 by omega]; exact HA.out)).mono ?_; rintro e w2 ⟨rfl, hb⟩
 have hB2 := hB1.trans (hb.mono hB1.size)
 have kN2 := kN1.kept hb
 have kA2 := kA1.kept hb
 clear hB1 hb kN1 kA1
 go_wp2_with fail
 refine (fend_any n 1 b ab _ _ _ kN2 kA2 (b - n).toNat (by omega) (by omega) (.inl rfl) ⟨by omega, by omega⟩ (fun i i1 i2 => HI.out _ (by omega) (by omega)) HB0.out).mono ?_; rintro e w3 ⟨rfl, hb⟩
 have HB := Lib.hid (hB2.trans (hb.mono hB2.size))
 clear hB2 hb kN2 kA2
 go_wp2
 go_ret3
 exact ⟨rfl, HB.out⟩
end Go.Proofs.YtfnifgppblbjhaaGreatDoor
namespace Go.Proofs.YtfnifgppblbjhaaGreatDoor
set_option maxHeartbeats 8000000
open Go.RowKit
def sunArr (f : Nat → Int) : Array Value := #[.int .i64 (f 0), .int .i64 (f 1), .int .i64 (f 2), .int .i64 (f 3), .int .i64 (f 4), .int .i64 (f 5), .int .i64 (f 6), .int .i64 (f 7), .int .i64 (f 8), .int .i64 (f 9), .int .i64 (f 10), .int .i64 (f 11)]
theorem twelve {i : Nat} (h : i < 12) : i = 0 ∨ i = 1 ∨ i = 2 ∨ i = 3 ∨ i = 4 ∨ i = 5 ∨ i = 6 ∨ i = 7 ∨ i = 8 ∨ i = 9 ∨ i = 10 ∨ i = 11 := by omega
theorem sunArr_at (f : Nat → Int) {i : Nat} (h : i < 12) : (sunArr f)[i]? = some (.int .i64 (f i)) := by
 rcases twelve h with e | e | e | e | e | e | e | e | e | e | e | e <;> subst e <;> rfl
def SunIn (f : Nat → Int) : Prop := ∀ i, i < 12 → 900 ≤ f i ∧ f i ≤ 1320
def SunBy (f : Nat → Int) : Prop := ∀ i, i < 12 → f ((i + 1) % 12) - f i ≤ 120 ∧ -120 ≤ f ((i + 1) % 12) - f i
instance (f : Nat → Int) : Decidable (SunIn f) := by unfold SunIn; exact inferInstance
instance (f : Nat → Int) : Decidable (SunBy f) := by unfold SunBy; exact inferInstance
def sunErr (f : Nat → Int) : Int := if SunIn f then if SunBy f then 0 else 71 else 70
theorem sunErr_70 {f : Nat → Int} {i : Nat} (h : i < 12) (c : f i < 900 ∨ 1320 < f i) : sunErr f = 70 := by
 unfold sunErr; rw [if_neg]; intro k; have := k i h; omega
theorem sunErr_71 {f : Nat → Int} {i : Nat} (h : i < 12) (k : SunIn f) (c : 120 < f ((i + 1) % 12) - f i ∨ f ((i + 1) % 12) - f i < -120) : sunErr f = 71 := by
 unfold sunErr; rw [if_pos k, if_neg]; intro k; have := k i h; omega
theorem sunErr_0 {f : Nat → Int} (k : SunIn f) (l : SunBy f) : sunErr f = 0 := by
 unfold sunErr; rw [if_pos k, if_pos l]
theorem sunErr_cases (f : Nat → Int) : (sunErr f = 0 ∧ SunIn f ∧ SunBy f) ∨ sunErr f = 70 ∨ sunErr f = 71 := by
 by_cases a : SunIn f
 ·by_cases b : SunBy f
  ·exact .inl ⟨sunErr_0 a b, a, b⟩
  ·right; right; unfold sunErr; rw [if_pos a, if_neg b]
 ·right; left; unfold sunErr; rw [if_neg a]
end Go.Proofs.YtfnifgppblbjhaaGreatDoor
