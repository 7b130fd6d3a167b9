/- Part of the proof of TopHoly. -/
import Derived.Test.YtfnifgppblbjhaaGreatDoorY01
import Derived.Test.YtfnifgppblbjhaaGreatDoorY14
import Derived.BigQuiet
import Derived.StillTailTactics
namespace Go.Proofs.YtfnifgppblbjhaaGreatDoor
set_option maxHeartbeats 8000000
open Go Go.RowKit
set_option linter.unusedVariables false
set_option linter.unusedSimpArgs false
def slLen : Value → Nat
 | .slice _ n _ => n
 | _ => 0
theorem turn1 {B : Nat} {w w' : World} (h : Turn (fun k => k = B) w w') (i : Nat) (v : Value) : Turn (fun k => k = B) w (w'.setCell ⟨B, i, none⟩ v) := h.setCell rfl i v
theorem cfg_cut (c : Cfg) (vs vw : Value) : cfgA c vs vw = ([Value.int .i64 c.fl, Value.int .i64 c.ca, Value.int .i64 c.pk, vs] ++ ([Value.int .i64 c.tv, Value.int .i64 c.lv, Value.int .i64 c.op, Value.int .i64 c.dw, Value.int .i64 c.ld, Value.int .i64 c.cl, Value.int .i64 c.ho] ++ [Value.int .i64 c.rs, Value.int .i64 c.pa, Value.int .i64 c.z.b, Value.int .i64 c.z.s, Value.int .i64 c.z.m, Value.int .i64 c.z.k, Value.int .i64 c.z.d, Value.int .i64 c.z.t, Value.int .i64 c.z.m', Value.int .i64 c.z.k', Value.int .i64 c.z.d', Value.int .i64 c.z.t', Value.int .i64 (c.f 0), Value.int .i64 (c.f 1), Value.int .i64 (c.f 2), Value.int .i64 (c.f 3), Value.int .i64 (c.f 4), Value.int .i64 (c.f 5), Value.int .i64 (c.f 6), Value.int .i64 (c.f 7), Value.int .i64 (c.f 8), Value.int .i64 (c.f 9), Value.int .i64 (c.f 10), Value.int .i64 (c.f 11), Value.bool c.ab, vw])).toArray := rfl
theorem cfg_cutz (c : Cfg) (vs vw : Value) : cfgA c vs vw = ([Value.int .i64 c.fl, Value.int .i64 c.ca, Value.int .i64 c.pk, vs, Value.int .i64 c.tv, Value.int .i64 c.lv, Value.int .i64 c.op, Value.int .i64 c.dw, Value.int .i64 c.ld, Value.int .i64 c.cl, Value.int .i64 c.ho, Value.int .i64 c.rs, Value.int .i64 c.pa] ++ ([Value.int .i64 c.z.b, Value.int .i64 c.z.s, Value.int .i64 c.z.m, Value.int .i64 c.z.k, Value.int .i64 c.z.d, Value.int .i64 c.z.t, Value.int .i64 c.z.m', Value.int .i64 c.z.k', Value.int .i64 c.z.d', Value.int .i64 c.z.t'] ++ [Value.int .i64 (c.f 0), Value.int .i64 (c.f 1), Value.int .i64 (c.f 2), Value.int .i64 (c.f 3), Value.int .i64 (c.f 4), Value.int .i64 (c.f 5), Value.int .i64 (c.f 6), Value.int .i64 (c.f 7), Value.int .i64 (c.f 8), Value.int .i64 (c.f 9), Value.int .i64 (c.f 10), Value.int .i64 (c.f 11), Value.bool c.ab, vw])).toArray := rfl
theorem cfg_put4 {W : World} {b : Nat} {t : TypeId} (c c' : Cfg) (vs vw : Value) (h : BlockIs W b (cfgA c vs vw) t) (l : List Value) (h1 : [Value.int .i64 c.fl, Value.int .i64 c.ca, Value.int .i64 c.pk, vs] = [Value.int .i64 c'.fl, Value.int .i64 c'.ca, Value.int .i64 c'.pk, vs]) (h2 : l = [Value.int .i64 c'.tv, Value.int .i64 c'.lv, Value.int .i64 c'.op, Value.int .i64 c'.dw, Value.int .i64 c'.ld, Value.int .i64 c'.cl, Value.int .i64 c'.ho]) (h3 : [Value.int .i64 c.rs, Value.int .i64 c.pa, Value.int .i64 c.z.b, Value.int .i64 c.z.s, Value.int .i64 c.z.m, Value.int .i64 c.z.k, Value.int .i64 c.z.d, Value.int .i64 c.z.t, Value.int .i64 c.z.m', Value.int .i64 c.z.k', Value.int .i64 c.z.d', Value.int .i64 c.z.t', Value.int .i64 (c.f 0), Value.int .i64 (c.f 1), Value.int .i64 (c.f 2), Value.int .i64 (c.f 3), Value.int .i64 (c.f 4), Value.int .i64 (c.f 5), Value.int .i64 (c.f 6), Value.int .i64 (c.f 7), Value.int .i64 (c.f 8), Value.int .i64 (c.f 9), Value.int .i64 (c.f 10), Value.int .i64 (c.f 11), Value.bool c.ab, vw] = [Value.int .i64 c'.rs, Value.int .i64 c'.pa, Value.int .i64 c'.z.b, Value.int .i64 c'.z.s, Value.int .i64 c'.z.m, Value.int .i64 c'.z.k, Value.int .i64 c'.z.d, Value.int .i64 c'.z.t, Value.int .i64 c'.z.m', Value.int .i64 c'.z.k', Value.int .i64 c'.z.d', Value.int .i64 c'.z.t', Value.int .i64 (c'.f 0), Value.int .i64 (c'.f 1), Value.int .i64 (c'.f 2), Value.int .i64 (c'.f 3), Value.int .i64 (c'.f 4), Value.int .i64 (c'.f 5), Value.int .i64 (c'.f 6), Value.int .i64 (c'.f 7), Value.int .i64 (c'.f 8), Value.int .i64 (c'.f 9), Value.int .i64 (c'.f 10), Value.int .i64 (c'.f 11), Value.bool c'.ab, vw]) : BlockIs (W.setCells b 4 l) b (cfgA c' vs vw) t := by
 rw [cfg_cut] at h
 have := block_setCells l [Value.int .i64 c.tv, Value.int .i64 c.lv, Value.int .i64 c.op, Value.int .i64 c.dw, Value.int .i64 c.ld, Value.int .i64 c.cl, Value.int .i64 c.ho] [Value.int .i64 c.fl, Value.int .i64 c.ca, Value.int .i64 c.pk, vs] [Value.int .i64 c.rs, Value.int .i64 c.pa, Value.int .i64 c.z.b, Value.int .i64 c.z.s, Value.int .i64 c.z.m, Value.int .i64 c.z.k, Value.int .i64 c.z.d, Value.int .i64 c.z.t, Value.int .i64 c.z.m', Value.int .i64 c.z.k', Value.int .i64 c.z.d', Value.int .i64 c.z.t', Value.int .i64 (c.f 0), Value.int .i64 (c.f 1), Value.int .i64 (c.f 2), Value.int .i64 (c.f 3), Value.int .i64 (c.f 4), Value.int .i64 (c.f 5), Value.int .i64 (c.f 6), Value.int .i64 (c.f 7), Value.int .i64 (c.f 8), Value.int .i64 (c.f 9), Value.int .i64 (c.f 10), Value.int .i64 (c.f 11), Value.bool c.ab, vw] W (by rw [h2]; rfl) h
 rw [h1, h2, h3] at this
 rw [cfg_cut, h2]
 exact this
theorem cfg_put13 {W : World} {b : Nat} {t : TypeId} (c c' : Cfg) (vs vw : Value) (h : BlockIs W b (cfgA c vs vw) t) (l : List Value) (h1 : [Value.int .i64 c.fl, Value.int .i64 c.ca, Value.int .i64 c.pk, vs, Value.int .i64 c.tv, Value.int .i64 c.lv, Value.int .i64 c.op, Value.int .i64 c.dw, Value.int .i64 c.ld, Value.int .i64 c.cl, Value.int .i64 c.ho, Value.int .i64 c.rs, Value.int .i64 c.pa] = [Value.int .i64 c'.fl, Value.int .i64 c'.ca, Value.int .i64 c'.pk, vs, Value.int .i64 c'.tv, Value.int .i64 c'.lv, Value.int .i64 c'.op, Value.int .i64 c'.dw, Value.int .i64 c'.ld, Value.int .i64 c'.cl, Value.int .i64 c'.ho, Value.int .i64 c'.rs, Value.int .i64 c'.pa]) (h2 : l = [Value.int .i64 c'.z.b, Value.int .i64 c'.z.s, Value.int .i64 c'.z.m, Value.int .i64 c'.z.k, Value.int .i64 c'.z.d, Value.int .i64 c'.z.t, Value.int .i64 c'.z.m', Value.int .i64 c'.z.k', Value.int .i64 c'.z.d', Value.int .i64 c'.z.t']) (h3 : [Value.int .i64 (c.f 0), Value.int .i64 (c.f 1), Value.int .i64 (c.f 2), Value.int .i64 (c.f 3), Value.int .i64 (c.f 4), Value.int .i64 (c.f 5), Value.int .i64 (c.f 6), Value.int .i64 (c.f 7), Value.int .i64 (c.f 8), Value.int .i64 (c.f 9), Value.int .i64 (c.f 10), Value.int .i64 (c.f 11), Value.bool c.ab, vw] = [Value.int .i64 (c'.f 0), Value.int .i64 (c'.f 1), Value.int .i64 (c'.f 2), Value.int .i64 (c'.f 3), Value.int .i64 (c'.f 4), Value.int .i64 (c'.f 5), Value.int .i64 (c'.f 6), Value.int .i64 (c'.f 7), Value.int .i64 (c'.f 8), Value.int .i64 (c'.f 9), Value.int .i64 (c'.f 10), Value.int .i64 (c'.f 11), Value.bool c'.ab, vw]) : BlockIs (W.setCells b 13 l) b (cfgA c' vs vw) t := by
 rw [cfg_cutz] at h
 have := block_setCells l [Value.int .i64 c.z.b, Value.int .i64 c.z.s, Value.int .i64 c.z.m, Value.int .i64 c.z.k, Value.int .i64 c.z.d, Value.int .i64 c.z.t, Value.int .i64 c.z.m', Value.int .i64 c.z.k', Value.int .i64 c.z.d', Value.int .i64 c.z.t'] [Value.int .i64 c.fl, Value.int .i64 c.ca, Value.int .i64 c.pk, vs, Value.int .i64 c.tv, Value.int .i64 c.lv, Value.int .i64 c.op, Value.int .i64 c.dw, Value.int .i64 c.ld, Value.int .i64 c.cl, Value.int .i64 c.ho, Value.int .i64 c.rs, Value.int .i64 c.pa] [Value.int .i64 (c.f 0), Value.int .i64 (c.f 1), Value.int .i64 (c.f 2), Value.int .i64 (c.f 3), Value.int .i64 (c.f 4), Value.int .i64 (c.f 5), Value.int .i64 (c.f 6), Value.int .i64 (c.f 7), Value.int .i64 (c.f 8), Value.int .i64 (c.f 9), Value.int .i64 (c.f 10), Value.int .i64 (c.f 11), Value.bool c.ab, vw] W (by rw [h2]; rfl) h
 rw [h1, h2, h3] at this
 rw [cfg_cutz, h2]
 exact this
theorem there_of {W : World} {b : Nat} {cs : Array Value} {t : TypeId} (h : BlockIs W b cs t) (o n : Nat) (hn : o + n ≤ cs.size) : W.there b o n := fun j hj => by
 have hlt : o + j < cs.size := by omega
 have := h.cell (i := o + j) (v := cs[o + j]) (by simp [hlt])
 exact ⟨by rw [this]; rfl, h.free _⟩
theorem ws_at {ops : Array Oper} {rest : List Oper} {op : Oper} {a : Act} {W : World} {Q : Exit → Act → World → Prop} (ty : TypeId) (x y : Operand) (b o : Nat) (cells : Array Value) (hgd : op.guard = none) (ho : op.op = .store ty x y)
  (hx : a.eval x = .pointer (some ⟨b, o, none⟩)) (hy : a.eval y = .agg cells) (n : Nat) (hn : n = cells.size) (ht : W.there b o n) (hi : (Tryz.prog.info? ty).map (·.size) = some n) (h1 : cells.all (·.oneCell') = true)
  (h : ∀ W', Hid (W' = W.setCells b o cells.toList) → wpList Tryz.prog ops Q rest (a.put op.dst undef) W') : wpList Tryz.prog ops Q (op :: rest) a W :=
 wpList_store_mid hgd ty x y ho b o cells hx hy (hn ▸ ht) (hn ▸ hi) h1 (h _ (show _ = _ from rfl))
theorem times_info : (Tryz.prog.info? 24).map (·.size) = some 7 := by kernel_rfl
def cfgH (c : Cfg) : Cfg := { c with tv := 0, lv := 0, op := 0, dw := 0, ld := 0, cl := 0, ho := 0, z := ⟨0, 0, 0, 0, 0, 0, 0, 0, 0, 0⟩ }
def cfgH2 (c : Cfg) : Cfg := { c with z := ⟨0, 0, 0, 0, 0, 0, 0, 0, 0, 0⟩ }
structure RowsM (w : World) (l : Value) (c : Cfg) (v : Nat → Value) : Prop where
 l : ∃ g o cap, l = .slice (some ⟨g, o, none⟩) 6 cap ∧ 6 ≤ cap ∧ w.rangeAt g o [v 0, v 1, v 2, v 3, v 4, v 5]
 r0 : Rd w (v 0) 6 ((row1 c).map (.int .i64))
 r1 : Rd w (v 1) c.st.length (c.st.map (.int .i64))
 r2 : Rd w (v 2) 7 ((row3 c).map (.int .i64))
 r3 : Rd w (v 3) 10 ((row4 c).map (.int .i64))
 r4 : Rd w (v 4) 12 ((row5 c).map (.int .i64))
 r5 : Rd w (v 5) 7 ((row6 c).map (.int .i64))
theorem load_sun_x {op : Oper} {a : Act} (y : Operand) (f : Nat → Int) (b o : Nat) (ho : op.op = .load 30 y) (hx : a.eval y = .pointer (some ⟨b, o, none⟩)) (w : World)
  (hS : w.rangeAt b o (sunArr f).toList) : (execOp a.eval op).run Tryz.prog w = .ok (.value (.agg (sunArr f))) w := by
 have := run_loadAt_mid (P := Tryz.prog) w b o 30 (sunArr f).toList _ hS Tryz.underlying30 rfl sun_info
 unfold execOp
 simp only [ho, hx]
 simp [Sem.run_bind, this]
theorem arr_at (b o c : Nat) (w : World) : (Instr.arrayAt 30 (.slice (some ⟨b, o, none⟩) 12 c)).run Tryz.prog w = .ok (.pointer (some ⟨b, o, none⟩)) w := by
 have hu : ∀ w, Sem.run Tryz.prog (underlying 30) w = .ok (TypeDesc.array 12 3) w := run_underlying Tryz.underlying30
 simp [Instr.arrayAt, Sem.run_bind, hu]
set_option maxRecDepth 100000 in
theorem build_ok (c : Cfg) (l : Value) (v : Nat → Value) (w : World) (h : CfgOk c) (hm : RowsM w l c v) :
  Calls Tryz.prog 90 #[l] w fun e w' => ∃ vw', e = .returned (.agg (cfgA c (v 1) vw')) ∧ w'.ownsRow w.heap.size 35 7 vw' 1 (wnA c.w).toList ∧ Below w.heap.size w w' := by
 obtain ⟨⟨gl, ol, cl, rfl, hcl, hrl⟩, r0, r1, r2, r3, r4, r5⟩ := hm
 obtain ⟨b0, o0, c0, e0, hc0, h0⟩ := r0.some (by omega)
 obtain ⟨b2, o2, c2, e2, hc2, h2⟩ := r2.some (by omega)
 obtain ⟨b3, o3, c3, e3, hc3, h3⟩ := r3.some (by omega)
 obtain ⟨b4, o4, c4, e4, hc4, h4⟩ := r4.some (by omega)
 obtain ⟨b5, o5, c5, e5, hc5, h5⟩ := r5.some (by omega)
 obtain ⟨p1, q1, e1⟩ := r1.form
 rw [e0, e1, e2, e3, e4, e5] at hrl
 rw [e1]
 have l0 : w.cell? ⟨gl, ol, none⟩ = some _ := hrl 0 _ rfl
 have l1 := hrl 1 _ rfl
 have l2 := hrl 2 _ rfl
 have l3 := hrl 3 _ rfl
 have l4 := hrl 4 _ rfl
 have l5 := hrl 5 _ rfl
 have hb2 := BlockIs.new w cfgZ 33
 obtain ⟨W, hW⟩ : ∃ W, w.alloc (.cells cfgZ 33) = W := ⟨_, rfl⟩
 have HB := (Below.refl w.heap.size w).alloc (Nat.le_refl _) (.cells cfgZ 33)
 rw [hW] at hb2 HB
 have HW := Lib.hid hW
 have hk : ∀ {b o : Nat} {x : Value}, w.cell? ⟨b, o, none⟩ = some x → W.cell? ⟨b, o, none⟩ = some x := fun {b o x} hx => (HB.cell (p := ⟨b, o, none⟩) (World.block_lt_of_cell? w _ hx)).trans hx
 have l0 := hk l0
 have l2 := hk l2
 have l3 := hk l3
 have l1 := hk l1
 have l4 := hk l4
 have l5 := hk l5
 clear r0 r1 r2 r3 r4 r5 e0 e1 e2 e3 e4 e5 hW
 go_enter Tryz.func90, Tryz.ntmps90
 go_wp2_with fail
 change Code.wp _ _ _ _ (w.alloc (.cells cfgZ 33))
 rw [HW.out]
 have hcl6 : (6 : Int) ≤ cl := by omega
 go_quiet (fail)
 go_wp2_with fail
 obtain ⟨W1, hW1⟩ : ∃ W1, W.drewN nq = W1 := ⟨_, rfl⟩
 have hab : (abI c.ab == 1) = c.ab := by cases c.ab <;> rfl
 have HB1 : Below w.heap.size w W1 := by rw [← hW1]; exact below_drewN HB _
 have hb21 : BlockIs W1 w.heap.size cfgZ 33 := by rw [← hW1]; exact hb2.drewN _
 have hk1 : ∀ {b o : Nat} {x : Value}, w.cell? ⟨b, o, none⟩ = some x → W1.cell? ⟨b, o, none⟩ = some x := fun {b o x} hx => (HB1.cell (p := ⟨b, o, none⟩) (World.block_lt_of_cell? w _ hx)).trans hx
 rw [hW1]
 clear hk l0 l2 l3 hb2 HB HW hW1
 have hK : ∀ W', Below W1.heap.size W1 W' → W'.cell? ⟨b0, o0, none⟩ = some (.int .i64 (c.fl)) ∧ W'.cell? ⟨b0, o0 + 1, none⟩ = some (.int .i64 (c.ca)) ∧ W'.cell? ⟨b0, o0 + 2, none⟩ = some (.int .i64 (c.pk)) ∧ W'.cell? ⟨b0, o0 + 3, none⟩ = some (.int .i64 (c.rs)) ∧ W'.cell? ⟨b0, o0 + 4, none⟩ = some (.int .i64 (c.pa)) ∧ W'.cell? ⟨b0, o0 + 5, none⟩ = some (.int .i64 (abI c.ab)) ∧ W'.rangeAt b4 o4 (sunArr c.f).toList ∧ W'.cell? ⟨gl, ol + 1, none⟩ = some (.slice p1 c.st.length q1) ∧ W'.cell? ⟨gl, ol + 4, none⟩ = some (.slice (some ⟨b4, o4, none⟩) 12 c4) ∧ Below W1.heap.size W1 W' := fun W' hw' => by
  have hk' : ∀ {b o : Nat} {x : Value}, w.cell? ⟨b, o, none⟩ = some x → W'.cell? ⟨b, o, none⟩ = some x := fun {b o x} hx => (hw'.cell (p := ⟨b, o, none⟩) (World.block_lt_of_cell? W1 _ (hk1 hx))).trans (hk1 hx)
  exact ⟨hk' (h0 0 _ rfl), hk' (h0 1 _ rfl), hk' (h0 2 _ rfl), hk' (h0 3 _ rfl), hk' (h0 4 _ rfl), hk' (h0 5 _ rfl), fun j v hv => hk' (h4 j v hv), hk' (hrl 1 _ rfl), hk' (hrl 4 _ rfl), hw'⟩
 have HK := Lib.hid hK
 have HK1 := Lib.hid HB1
 have HRL := Lib.hid hrl
 have H0 := Lib.hid h0
 have H2 := Lib.hid h2
 have H3 := Lib.hid h3
 have H4 := Lib.hid h4
 have H5 := Lib.hid h5
 have hSA : ∀ w, (Instr.arrayAt 30 (.slice (some ⟨b4, o4, none⟩) 12 c4)).run Tryz.prog w = .ok (.pointer (some ⟨b4, o4, none⟩)) w := arr_at b4 o4 c4
 have q0 : (6 : Int) ≤ c0 := by omega
 clear hK hk1 hrl h0 h2 h3 h4 h5 l1 l4 l5 h
 refine wp_region_held_drew (S := (fun w' => w'.cell? ⟨b0, o0, none⟩ = some (.int .i64 (c.fl)) ∧ w'.cell? ⟨b0, o0 + 1, none⟩ = some (.int .i64 (c.ca)) ∧ w'.cell? ⟨b0, o0 + 2, none⟩ = some (.int .i64 (c.pk)) ∧ w'.cell? ⟨b0, o0 + 3, none⟩ = some (.int .i64 (c.rs)) ∧ w'.cell? ⟨b0, o0 + 4, none⟩ = some (.int .i64 (c.pa)) ∧ w'.cell? ⟨b0, o0 + 5, none⟩ = some (.int .i64 (abI c.ab)) ∧ w'.rangeAt b4 o4 (sunArr c.f).toList ∧ w'.cell? ⟨gl, ol + 1, none⟩ = some (.slice p1 c.st.length q1) ∧ w'.cell? ⟨gl, ol + 4, none⟩ = some (.slice (some ⟨b4, o4, none⟩) 12 c4) ∧ Below W1.heap.size W1 w')) (by kernel_rfl) (HK.out _ (Below.refl _ _).drew) (fun hHeld => ?_)
 refine tkH 0 ?_
 try simp only [pt]
 refine tkH 1 ?_
 try simp only [pt]
 refine tkH 2 ?_
 try simp only [pt]
 refine tkH 3 ?_
 try simp only [pt]
 refine tkH 4 ?_
 try simp only [pt]
 refine tkH 5 ?_
 try simp only [pt]
 refine tkH 6 ?_
 try simp only [pt]
 refine tkH 7 ?_
 try simp only [pt]
 refine tkH 8 ?_
 try simp only [pt]
 refine tkH 9 ?_
 try simp only [pt]
 refine tkH 10 ?_
 try simp only [pt]
 refine tkH 11 ?_
 try simp only [pt]
 refine tkH 12 ?_
 try simp only [pt]
 refine tkH 13 ?_
 try simp only [pt]
 refine tkH 14 ?_
 try simp only [pt]
 refine tkH 15 ?_
 try simp only [pt]
 refine tkH 16 ?_
 try simp only [pt]
 refine tkH 17 ?_
 try simp only [pt]
 refine tkH 18 ?_
 try simp only [pt]
 refine tkH 19 ?_
 try simp only [pt]
 refine tkH 20 ?_
 try simp only [pt]
 refine tkH 21 ?_
 try simp only [pt]
 refine tkH 22 ?_
 try simp only [pt]
 refine tkH 23 ?_
 try simp only [pt]
 refine tkH 24 ?_
 try simp only [pt]
 refine tkH 25 ?_
 try simp only [pt]
 refine tkH 26 ?_ (hy := by (intro w hSw; (try dsimp only at hSw); refine load_sun_x (.tmp 42) c.f b4 o4 ?_ ?_ w hSw.2.2.2.2.2.2.1 <;> rfl))
 try simp only [pt]
 refine tkH 27 ?_ (hy := by (intro w hSw; clear hSw; simp only [sunArr]; go_simp; all_goals (with_reducible rfl)))
 try simp only [pt]
 refine rdy [28] ?_
 refine' arC rfl (fun KK hKK => ?s28) AllReadyH.nil
 go_simp
 refine hKK.out _ _ (HK.out _ ((Below.refl _ _).drew.alloc (Nat.le_refl _) _)) (fun hHeld2 => ?_)
 clear hKK KK
 try simp only [pt]
 refine rdy [29] ?_
 refine' arC rfl (fun KK hKK => ?s29) AllReadyH.nil
 refine wp_store_row 33 (.tmp 6) (.tmp 44) rfl W1.heap.size (cfgA (cfgH c) (.slice p1 c.st.length q1) (.slice none 0 0)) rfl rfl 33 cfgZ (BlockIs.new W1.drew cfgZ 33) cfg_info rfl (cfg_one _ _ _ rfl rfl) ?_
 refine hKK.out _ _ (HK.out _ (below_setRow ((Below.refl _ _).drew.alloc (Nat.le_refl _) _) (Nat.le_refl _) _)) (fun hHeld3 => ?_)
 clear hKK KK hHeld hHeld2 hHeld3
 refine wpAnyH_done (by kernel_rfl) ?_ _
 have hW2 : ∃ W2, (W1.drew.alloc (.cells cfgZ 33)).setRow W1.heap.size (cfgA (cfgH c) (.slice p1 c.st.length q1) (.slice none 0 0)) = W2 := ⟨_, rfl⟩
 have k6 : BlockIs ((W1.drew.alloc (.cells cfgZ 33)).setRow W1.heap.size (cfgA (cfgH c) (.slice p1 c.st.length q1) (.slice none 0 0))) W1.heap.size (cfgA (cfgH c) (.slice p1 c.st.length q1) (.slice none 0 0)) 33 := (BlockIs.new W1.drew cfgZ 33).row _
 have B2 : Below W1.heap.size W1 ((W1.drew.alloc (.cells cfgZ 33)).setRow W1.heap.size (cfgA (cfgH c) (.slice p1 c.st.length q1) (.slice none 0 0))) := below_setRow ((Below.refl _ _).drew.alloc (Nat.le_refl _) _) (Nat.le_refl _) _
 have hz2 : ((W1.drew.alloc (.cells cfgZ 33)).setRow W1.heap.size (cfgA (cfgH c) (.slice p1 c.st.length q1) (.slice none 0 0))).heap.size = W1.heap.size + 1 := by simp [World.setRow]
 obtain ⟨W2, hW2⟩ := hW2
 change Exit.then _ _ _ _ ((W1.drew.alloc (.cells cfgZ 33)).setRow W1.heap.size (cfgA (cfgH c) (.slice p1 c.st.length q1) (.slice none 0 0)))
 rw [hW2] at k6 B2 hz2 ⊢
 clear hW2
 have hs1 := HK1.out.size
 have BW2 := HK1.out.trans (B2.mono hs1)
 have k2 := hb21.below B2 hb21.lt
 generalize hB6 : W1.heap.size = B6 at *
 have hlt6 : w.heap.size < B6 := by rw [← hB6]; exact hb21.lt
 clear HK hb21 hSA B2 hs1 HK1 hB6 q0 hab
 have hk2 : ∀ {b o : Nat} {x : Value}, w.cell? ⟨b, o, none⟩ = some x → W2.cell? ⟨b, o, none⟩ = some x := fun {b o x} hx => (BW2.cell (p := ⟨b, o, none⟩) (World.block_lt_of_cell? w _ hx)).trans hx
 have x2_0 : W2.cell? ⟨b2, o2, none⟩ = some (.int .i64 (c.tv)) := hk2 (H2.out 0 _ rfl)
 have x2_1 : W2.cell? ⟨b2, o2 + 1, none⟩ = some (.int .i64 (c.lv)) := hk2 (H2.out 1 _ rfl)
 have x2_2 : W2.cell? ⟨b2, o2 + 2, none⟩ = some (.int .i64 (c.op)) := hk2 (H2.out 2 _ rfl)
 have x2_3 : W2.cell? ⟨b2, o2 + 3, none⟩ = some (.int .i64 (c.dw)) := hk2 (H2.out 3 _ rfl)
 have x2_4 : W2.cell? ⟨b2, o2 + 4, none⟩ = some (.int .i64 (c.ld)) := hk2 (H2.out 4 _ rfl)
 have x2_5 : W2.cell? ⟨b2, o2 + 5, none⟩ = some (.int .i64 (c.cl)) := hk2 (H2.out 5 _ rfl)
 have x2_6 : W2.cell? ⟨b2, o2 + 6, none⟩ = some (.int .i64 (c.ho)) := hk2 (H2.out 6 _ rfl)
 have q2 : (7 : Int) ≤ c2 := by omega
 have K6 := Lib.hid k6
 have K2 := Lib.hid k2
 have HB2 := Lib.hid BW2
 clear k6 k2 BW2
 go_wp2_with fail
 go_still_tail 23, (by kernel_rfl)
 change wpList _ _ _ _ _ W2.drew
 obtain ⟨W3, hW3⟩ : ∃ W3, W2.drew = W3 := ⟨_, rfl⟩
 have k6 : BlockIs W3 B6 (cfgA (cfgH c) (.slice p1 c.st.length q1) (.slice none 0 0)) 33 := by rw [← hW3]; exact K6.out
 have k2 : BlockIs W3 w.heap.size cfgZ 33 := by rw [← hW3]; exact K2.out
 have BW3 : Below w.heap.size w W3 := by rw [← hW3]; exact HB2.out.drew
 rw [hW3]
 clear x2_0
 clear x2_1
 clear x2_2
 clear x2_3
 clear x2_4
 clear x2_5
 clear x2_6
 clear hW3 K6 K2 HB2 hk2
 have K6 := Lib.hid k6
 have K2 := Lib.hid k2
 have HB3 := Lib.hid BW3
 clear k6 k2 BW3
 go_wp2_with ((with_reducible show wpList _ _ _ _ _ _); refine ws_at 24 (.tmp 67) (.tmp 66) B6 4 #[.int .i64 (c.tv), .int .i64 (c.lv), .int .i64 (c.op), .int .i64 (c.dw), .int .i64 (c.ld), .int .i64 (c.cl), .int .i64 (c.ho)] rfl rfl rfl rfl 7 rfl (there_of K6.out 4 7 (by show 4 + 7 ≤ 37; omega)) times_info (by simp [Value.oneCell']) ?_)
 intro W4 hW4
 have k6 : BlockIs W4 B6 (cfgA (cfgH2 c) (.slice p1 c.st.length q1) (.slice none 0 0)) 33 := by rw [hW4.out]; exact cfg_put4 (cfgH c) (cfgH2 c) _ _ K6.out _ rfl rfl rfl
 have hT : Turn (fun k => k = B6) W3 W4 := by rw [hW4.out]; exact turn_setCells (T := fun k => k = B6) (b := B6) rfl _ _ _ (Turn.refl _ _)
 have k2 := hT.at K2.out (by omega)
 have BW4 := HB3.out.trans (hT.below (B := w.heap.size) (by have := HB3.out.size; omega) (by intro k hk; omega))
 clear hW4 K6 K2 HB3 hT
 go_wp2_with fail
 have hk4 : ∀ {b o : Nat} {x : Value}, w.cell? ⟨b, o, none⟩ = some x → W4.cell? ⟨b, o, none⟩ = some x := fun {b o x} hx => (BW4.cell (p := ⟨b, o, none⟩) (World.block_lt_of_cell? w _ hx)).trans hx
 have x3_0 : W4.cell? ⟨b3, o3, none⟩ = some (.int .i64 (c.z.b)) := hk4 (H3.out 0 _ rfl)
 have x3_1 : W4.cell? ⟨b3, o3 + 1, none⟩ = some (.int .i64 (c.z.s)) := hk4 (H3.out 1 _ rfl)
 have x3_2 : W4.cell? ⟨b3, o3 + 2, none⟩ = some (.int .i64 (c.z.m)) := hk4 (H3.out 2 _ rfl)
 have x3_3 : W4.cell? ⟨b3, o3 + 3, none⟩ = some (.int .i64 (c.z.k)) := hk4 (H3.out 3 _ rfl)
 have x3_4 : W4.cell? ⟨b3, o3 + 4, none⟩ = some (.int .i64 (c.z.d)) := hk4 (H3.out 4 _ rfl)
 have x3_5 : W4.cell? ⟨b3, o3 + 5, none⟩ = some (.int .i64 (c.z.t)) := hk4 (H3.out 5 _ rfl)
 have x3_6 : W4.cell? ⟨b3, o3 + 6, none⟩ = some (.int .i64 (c.z.m')) := hk4 (H3.out 6 _ rfl)
 have x3_7 : W4.cell? ⟨b3, o3 + 7, none⟩ = some (.int .i64 (c.z.k')) := hk4 (H3.out 7 _ rfl)
 have x3_8 : W4.cell? ⟨b3, o3 + 8, none⟩ = some (.int .i64 (c.z.d')) := hk4 (H3.out 8 _ rfl)
 have x3_9 : W4.cell? ⟨b3, o3 + 9, none⟩ = some (.int .i64 (c.z.t')) := hk4 (H3.out 9 _ rfl)
 have q3 : (10 : Int) ≤ c3 := by omega
 have K6 := Lib.hid k6
 have K2 := Lib.hid k2
 have HB4 := Lib.hid BW4
 clear k6 k2 BW4 q2
 go_still_tail 34, (by kernel_rfl)
 change wpList _ _ _ _ _ W4.drew
 obtain ⟨W5, hW5⟩ : ∃ W5, W4.drew = W5 := ⟨_, rfl⟩
 have k6 : BlockIs W5 B6 (cfgA (cfgH2 c) (.slice p1 c.st.length q1) (.slice none 0 0)) 33 := by rw [← hW5]; exact K6.out
 have k2 : BlockIs W5 w.heap.size cfgZ 33 := by rw [← hW5]; exact K2.out
 have BW5 : Below w.heap.size w W5 := by rw [← hW5]; exact HB4.out.drew
 rw [hW5]
 clear x3_0
 clear x3_1
 clear x3_2
 clear x3_3
 clear x3_4
 clear x3_5
 clear x3_6
 clear x3_7
 clear x3_8
 clear x3_9
 clear hW5 K6 K2 HB4 hk4
 have K6 := Lib.hid k6
 have K2 := Lib.hid k2
 have HB5 := Lib.hid BW5
 have hl5 : W5.cell? ⟨gl, ol + 5, none⟩ = some (.slice (some ⟨b5, o5, none⟩) 7 c5) := (BW5.cell (p := ⟨gl, ol + 5, none⟩) (World.block_lt_of_cell? w _ (HRL.out 5 _ rfl))).trans (HRL.out 5 _ rfl)
 clear k6 k2 BW5 q3
 go_wp2_with ((with_reducible show wpList _ _ _ _ _ _); refine ws_at 28 (.tmp 101) (.tmp 100) B6 13 #[.int .i64 (c.z.b), .int .i64 (c.z.s), .int .i64 (c.z.m), .int .i64 (c.z.k), .int .i64 (c.z.d), .int .i64 (c.z.t), .int .i64 (c.z.m'), .int .i64 (c.z.k'), .int .i64 (c.z.d'), .int .i64 (c.z.t')] rfl rfl rfl rfl 10 rfl (there_of K6.out 13 10 (by show 13 + 10 ≤ 37; omega)) zone_info (by simp [Value.oneCell']) ?_)
 intro W6 hW6
 have k6 : BlockIs W6 B6 (cfgA c (.slice p1 c.st.length q1) (.slice none 0 0)) 33 := by rw [hW6.out]; exact cfg_put13 (cfgH2 c) c _ _ K6.out _ rfl rfl rfl
 have hT : Turn (fun k => k = B6) W5 W6 := by rw [hW6.out]; exact turn_setCells (T := fun k => k = B6) (b := B6) rfl _ _ _ (Turn.refl _ _)
 have k2 := hT.at K2.out (by omega)
 have BW6 := HB5.out.trans (hT.below (B := w.heap.size) (by have := HB5.out.size; omega) (by intro k hk; omega))
 have hk6 : ∀ {b o : Nat} {x : Value}, w.cell? ⟨b, o, none⟩ = some x → W6.cell? ⟨b, o, none⟩ = some x := fun {b o x} hx => (BW6.cell (p := ⟨b, o, none⟩) (World.block_lt_of_cell? w _ hx)).trans hx
 have hl5 := hk6 (HRL.out 5 _ rfl)
 have K6 := Lib.hid k6
 have K2 := Lib.hid k2
 have HB6 := Lib.hid BW6
 clear hT HB5 k6 k2 BW6 hk6 hW6
 go_wp2_with fail
 clear hl5
 have hK5 : ∀ W', Below w.heap.size w W' → W'.cell? ⟨b5, o5, none⟩ = some (.int .i64 (c.w.k)) ∧ W'.cell? ⟨b5, o5 + 1, none⟩ = some (.int .i64 (c.w.m)) ∧ W'.cell? ⟨b5, o5 + 2, none⟩ = some (.int .i64 (c.w.p)) ∧ W'.cell? ⟨b5, o5 + 3, none⟩ = some (.int .i64 (c.w.a)) ∧ W'.cell? ⟨b5, o5 + 4, none⟩ = some (.int .i64 (c.w.s)) ∧ W'.cell? ⟨b5, o5 + 5, none⟩ = some (.int .i64 (c.w.mi)) ∧ W'.cell? ⟨b5, o5 + 6, none⟩ = some (.int .i64 (c.w.l)) ∧ Below w.heap.size w W' := fun W' h => by
  have hk' : ∀ {b o : Nat} {x : Value}, w.cell? ⟨b, o, none⟩ = some x → W'.cell? ⟨b, o, none⟩ = some x := fun {b o x} hx => (h.cell (p := ⟨b, o, none⟩) (World.block_lt_of_cell? w _ hx)).trans hx
  exact ⟨hk' (H5.out 0 _ rfl), hk' (H5.out 1 _ rfl), hk' (H5.out 2 _ rfl), hk' (H5.out 3 _ rfl), hk' (H5.out 4 _ rfl), hk' (H5.out 5 _ rfl), hk' (H5.out 6 _ rfl), h⟩
 have HK5 := Lib.hid hK5
 clear hK5
 have hq5 : (7 : Int) ≤ c5 := by omega
 go_loopw [7] (fun v7 wr => (v7 = .slice (some ⟨b5, o5, none⟩) 7 c5 ∧ W6 = wr) ∨ (∃ p q vw', v7 = .slice p 0 q ∧ BlockIs wr B6 (cfgA c (.slice p1 c.st.length q1) vw') 33 ∧ BlockIs wr w.heap.size cfgZ 33 ∧ wr.ownsRow (w.heap.size + 1) 35 7 vw' 1 (wnA c.w).toList ∧ Below w.heap.size w wr)) (fun v7 _ => slLen v7)
 case atStart => exact .inl ⟨rfl, rfl⟩
 case round =>
  rcases hrel with ⟨rfl, rfl⟩ | ⟨p, q, vw', rfl, kb, kz, ko, kB⟩
  ·have HBA := Lib.hid (HB6.out.drew.alloc (by show w.heap.size ≤ W6.heap.size; exact HB6.out.size) (.cells (wnA c.w) 35))
   have KBA := Lib.hid ((show BlockIs W6.drew B6 _ _ from K6.out).alloc (.cells (wnA c.w) 35))
   have KZA := Lib.hid ((show BlockIs W6.drew w.heap.size _ _ from K2.out).alloc (.cells (wnA c.w) 35))
   have hnw : ∀ j u, (wnA c.w).toList[j]? = some u → (W6.drew.alloc (.cells (wnA c.w) 35)).cell? ((⟨W6.heap.size, 0, none⟩ : Addr).add j) = some u := fun j u hu => by
    rw [Addr.add_mid, Nat.zero_add]
    exact (BlockIs.new W6.drew (wnA c.w) 35).cell (by simpa using hu)
   have HNW := Lib.hid hnw
   obtain ⟨i0, hi0, hz0, hz1, hz2⟩ := info_hid wn_info3
   have y36 : W6.drew.cell? ⟨B6, 36, none⟩ = some (.slice none 0 0) := K6.out.cell (i := 36) rfl
   have y36' : (W6.drew.alloc (.cells (wnA c.w) 35)).cell? ⟨B6, 36, none⟩ = some (.slice none 0 0) := KBA.out.cell (i := 36) rfl
   have y36'' : (W6.alloc (.cells #[.int .i64 c.w.k, .int .i64 c.w.m, .int .i64 c.w.p, .int .i64 c.w.a, .int .i64 c.w.s, .int .i64 c.w.mi, .int .i64 c.w.l] 35)).cell? ⟨B6, 36, none⟩ = some (.slice none 0 0) := y36'
   clear hnw
   go_wp2_with fail
   refine wp_region_held_drew (S := fun w' => w'.cell? ⟨b5, o5, none⟩ = some (.int .i64 (c.w.k)) ∧ w'.cell? ⟨b5, o5 + 1, none⟩ = some (.int .i64 (c.w.m)) ∧ w'.cell? ⟨b5, o5 + 2, none⟩ = some (.int .i64 (c.w.p)) ∧ w'.cell? ⟨b5, o5 + 3, none⟩ = some (.int .i64 (c.w.a)) ∧ w'.cell? ⟨b5, o5 + 4, none⟩ = some (.int .i64 (c.w.s)) ∧ w'.cell? ⟨b5, o5 + 5, none⟩ = some (.int .i64 (c.w.mi)) ∧ w'.cell? ⟨b5, o5 + 6, none⟩ = some (.int .i64 (c.w.l)) ∧ Below w.heap.size w w') (by kernel_rfl) (HK5.out _ HB6.out.drew) (fun hHeld => ?_)
   refine tkH 0 ?_
   try simp only [pt]
   refine tkH 2 ?_
   try simp only [pt]
   refine tkH 3 ?_
   try simp only [pt]
   refine tkH 4 ?_
   try simp only [pt]
   refine tkH 5 ?_
   try simp only [pt]
   refine tkH 6 ?_
   try simp only [pt]
   refine tkH 7 ?_
   try simp only [pt]
   refine tkH 8 ?_
   try simp only [pt]
   refine tkH 9 ?_
   try simp only [pt]
   refine tkH 10 ?_
   try simp only [pt]
   refine tkH 11 ?_
   try simp only [pt]
   refine tkH 12 ?_
   try simp only [pt]
   refine tkH 13 ?_
   try simp only [pt]
   refine tkH 14 ?_
   try simp only [pt]
   refine tkH 15 ?_
   try simp only [pt]
   refine tkH 16 ?_
   try simp only [pt]
   refine tkH 17 ?_
   try simp only [pt]
   refine tkH 18 ?_
   try simp only [pt]
   refine tkH 19 ?_
   try simp only [pt]
   refine tkH 20 ?_
   try simp only [pt]
   refine tkH 21 ?_
   try simp only [pt]
   refine tkH 22 ?_
   try simp only [pt]
   refine tkH 23 ?_
   try simp only [pt]
   refine rdy [1, 24] ?_
   refine' arC rfl (fun KK hKK => ?xs1) (arC rfl (fun KK hKK => ?xs24) AllReadyH.nil)
   case xs1 =>
    go_simp
    refine hKK.out _ _ (HK5.out _ HB6.out.drew) (fun _ => ?_)
    clear hKK KK
    try simp only [pt]
    refine rdy [24] ?_
    refine' arC rfl (fun KK hKK => ?as24) AllReadyH.nil
    go_simp
    refine hKK.out _ _ (HK5.out _ HBA.out) (fun _ => ?_)
    clear hKK KK
    try simp only [pt]
    refine rdy [25] ?_
    refine' arC rfl (fun KK hKK => ?as25) AllReadyH.nil
    refine wp_append_lies _ (.tmp 111) (.tmp 134) 31 rfl (w.heap.size + 1) 35 i0 (.agg #[.int .i64 0, .int .i64 0, .int .i64 0, .int .i64 0, .int .i64 0, .int .i64 0, .int .i64 0]) 7 56 Tryz.underlying31 (hi0 ()) hz0 hz1 hz2 rfl (by decide) _ 0 [] rfl (World.ownsRow_nil _ _ _ _) ⟨W6.heap.size, 0, none⟩ 1 1 (wnA c.w).toList rfl rfl HNW.out (wn_one c.w) (by omega) (by unfold maxLen; omega) (by omega) (by have := KZA.out.lt; exact this) _ rfl ?_
    intro g5 cap5 w5 h5 hg5 hor5 hlt5
    refine hKK.out _ _ (HK5.out _ (HBA.out.grown hg5 HBA.out.size (fun k e => by cases e))) (fun _ => ?_)
    clear hKK KK
    try simp only [pt]
    have kb5 : BlockIs w5 B6 (cfgA c (.slice p1 c.st.length q1) (.slice none 0 0)) 33 := KBA.out.below (below_grown hg5) KBA.out.lt
    have kz5 : BlockIs w5 w.heap.size cfgZ 33 := KZA.out.below (below_grown hg5) KZA.out.lt
    have c36 := kb5.cell (i := 36) (v := .slice none 0 0) rfl
    have f36 := kb5.free 36
    have B5 := HBA.out.grown hg5 HBA.out.size (fun k e => by cases e)
    have hne : ∀ k, (Value.slice (some ⟨g5, 0, none⟩) 1 cap5).ownBlock = some k → ¬ k = B6 := fun k hk => by
     have hlt7 : B6 < W6.heap.size := K6.out.lt
     have hk' : k = g5 := (Option.some.inj (show some g5 = some k from hk)).symm
     rcases hor5 with e | e
     ·exact nomatch (show (none : Option Nat) = some g5 from e)
     ·have e' : g5 = W6.heap.size + 1 := by rw [e]; show (W6.alloc _).heap.size = _; simp
      omega
    have HF := Lib.hid (show BlockIs (w5.setCell ⟨B6, 36, none⟩ (.slice (some ⟨g5, 0, none⟩) 1 cap5)) B6 (cfgA c (.slice p1 c.st.length q1) (.slice (some ⟨g5, 0, none⟩) 1 cap5)) 33 ∧ BlockIs (w5.setCell ⟨B6, 36, none⟩ (.slice (some ⟨g5, 0, none⟩) 1 cap5)) w.heap.size cfgZ 33 ∧ (w5.setCell ⟨B6, 36, none⟩ (.slice (some ⟨g5, 0, none⟩) 1 cap5)).ownsRow (w.heap.size + 1) 35 7 (.slice (some ⟨g5, 0, none⟩) 1 cap5) 1 (wnA c.w).toList ∧ Below w.heap.size w (w5.setCell ⟨B6, 36, none⟩ (.slice (some ⟨g5, 0, none⟩) 1 cap5)) from
     ⟨kb5.set 36 _, kz5.other (a := ⟨B6, 36, none⟩) (by show w.heap.size ≠ B6; omega) _, (turn1 (Turn.refl (fun k => k = B6) w5) 36 _).own h5 hne, B5.setCell (by show w.heap.size ≤ B6; omega) _⟩)
    clear kb5 kz5 hne h5 hg5
    refine tkH 26 ?_
    try simp only [pt]
    refine rdy [27] ?_
    refine' arC rfl (fun KK hKK => ?as27) AllReadyH.nil
    go_simp
    refine hKK.out _ _ (HK5.out _ HF.out.2.2.2) (fun _ => ?_)
    clear hKK KK c36 f36 B5
    try simp only [pt]
    refine wpAnyH_done (by kernel_rfl) ?_ _
    clear HK5 HBA KBA KZA HNW
    go_wp2_with fail
    go_round
    case rel => exact .inr ⟨_, _, _, rfl, HF.out⟩
    case measure => simp [slLen]
   case xs24 =>
    go_simp
    refine hKK.out _ _ (HK5.out _ HBA.out) (fun _ => ?_)
    clear hKK KK
    try simp only [pt]
    refine rdy [1] ?_
    refine' arC rfl (fun KK hKK => ?bs1) AllReadyH.nil
    go_simp
    refine hKK.out _ _ (HK5.out _ HBA.out) (fun _ => ?_)
    clear hKK KK
    try simp only [pt]
    refine rdy [25] ?_
    refine' arC rfl (fun KK hKK => ?bs25) AllReadyH.nil
    refine wp_append_lies _ (.tmp 111) (.tmp 134) 31 rfl (w.heap.size + 1) 35 i0 (.agg #[.int .i64 0, .int .i64 0, .int .i64 0, .int .i64 0, .int .i64 0, .int .i64 0, .int .i64 0]) 7 56 Tryz.underlying31 (hi0 ()) hz0 hz1 hz2 rfl (by decide) _ 0 [] rfl (World.ownsRow_nil _ _ _ _) ⟨W6.heap.size, 0, none⟩ 1 1 (wnA c.w).toList rfl rfl HNW.out (wn_one c.w) (by omega) (by unfold maxLen; omega) (by omega) (by have := KZA.out.lt; exact this) _ rfl ?_
    intro g5 cap5 w5 h5 hg5 hor5 hlt5
    refine hKK.out _ _ (HK5.out _ (HBA.out.grown hg5 HBA.out.size (fun k e => by cases e))) (fun _ => ?_)
    clear hKK KK
    try simp only [pt]
    have kb5 : BlockIs w5 B6 (cfgA c (.slice p1 c.st.length q1) (.slice none 0 0)) 33 := KBA.out.below (below_grown hg5) KBA.out.lt
    have kz5 : BlockIs w5 w.heap.size cfgZ 33 := KZA.out.below (below_grown hg5) KZA.out.lt
    have c36 := kb5.cell (i := 36) (v := .slice none 0 0) rfl
    have f36 := kb5.free 36
    have B5 := HBA.out.grown hg5 HBA.out.size (fun k e => by cases e)
    have hne : ∀ k, (Value.slice (some ⟨g5, 0, none⟩) 1 cap5).ownBlock = some k → ¬ k = B6 := fun k hk => by
     have hlt7 : B6 < W6.heap.size := K6.out.lt
     have hk' : k = g5 := (Option.some.inj (show some g5 = some k from hk)).symm
     rcases hor5 with e | e
     ·exact nomatch (show (none : Option Nat) = some g5 from e)
     ·have e' : g5 = W6.heap.size + 1 := by rw [e]; show (W6.alloc _).heap.size = _; simp
      omega
    have HF := Lib.hid (show BlockIs (w5.setCell ⟨B6, 36, none⟩ (.slice (some ⟨g5, 0, none⟩) 1 cap5)) B6 (cfgA c (.slice p1 c.st.length q1) (.slice (some ⟨g5, 0, none⟩) 1 cap5)) 33 ∧ BlockIs (w5.setCell ⟨B6, 36, none⟩ (.slice (some ⟨g5, 0, none⟩) 1 cap5)) w.heap.size cfgZ 33 ∧ (w5.setCell ⟨B6, 36, none⟩ (.slice (some ⟨g5, 0, none⟩) 1 cap5)).ownsRow (w.heap.size + 1) 35 7 (.slice (some ⟨g5, 0, none⟩) 1 cap5) 1 (wnA c.w).toList ∧ Below w.heap.size w (w5.setCell ⟨B6, 36, none⟩ (.slice (some ⟨g5, 0, none⟩) 1 cap5)) from
     ⟨kb5.set 36 _, kz5.other (a := ⟨B6, 36, none⟩) (by show w.heap.size ≠ B6; omega) _, (turn1 (Turn.refl (fun k => k = B6) w5) 36 _).own h5 hne, B5.setCell (by show w.heap.size ≤ B6; omega) _⟩)
    clear kb5 kz5 hne h5 hg5
    refine tkH 26 ?_
    try simp only [pt]
    refine rdy [27] ?_
    refine' arC rfl (fun KK hKK => ?bs27) AllReadyH.nil
    go_simp
    refine hKK.out _ _ (HK5.out _ HF.out.2.2.2) (fun _ => ?_)
    clear hKK KK c36 f36 B5
    try simp only [pt]
    refine wpAnyH_done (by kernel_rfl) ?_ _
    clear HK5 HBA KBA KZA HNW
    go_wp2_with fail
    go_round
    case rel => exact .inr ⟨_, _, _, rfl, HF.out⟩
    case measure => simp [slLen]
  ·have r3 := Lib.hid (below_setRow kB (Nat.le_refl w.heap.size) (cfgA c (.slice p1 c.st.length q1) vw'))
   have r1 := Lib.hid (kz.row (cfgA c (.slice p1 c.st.length q1) vw'))
   have r2 := Lib.hid ((((Turn.refl (fun k => k = w.heap.size) wr).setRow (b := w.heap.size) rfl (cfgA c (.slice p1 c.st.length q1) vw')).own ko (fun k hk => by have := (ko.lt k hk).1; omega)).mono (base' := w.heap.size) (by omega))
   obtain ⟨pv, qv, rfl⟩ := (own_rd ko).form
   have KB := Lib.hid kb
   have KZ := Lib.hid kz
   clear kb kz ko kB
   go_wp2_with (first
    | (with_reducible show wpList _ _ _ _ _ _; refine wl_box (.tmp 6) c (.slice p1 c.st.length q1) (.slice pv 1 qv) B6 33 rfl rfl rfl KB.out ?_)
    | (with_reducible show wpList _ _ _ _ _ _; refine ws_box (.tmp 2) (.tmp 137) c (.slice p1 c.st.length q1) (.slice pv 1 qv) w.heap.size cfgZ 33 rfl rfl rfl rfl KZ.out rfl rfl rfl ?_))
   exact bodyPost_ret (res_cfg rfl _ _ w.heap.size 33 c _ _ rfl r1.out) rfl ⟨_, rfl, r2.out, r3.out⟩
end Go.Proofs.YtfnifgppblbjhaaGreatDoor
