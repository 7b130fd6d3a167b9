/- Part of the proof of TopHoly. -/
import Derived.Test.YtfnifgppblbjhaaGreatDoorY01
import Derived.Test.YtfnifgppblbjhaaGreatDoorY14
import Derived.Test.YtfnifgppblbjhaaGreatDoorY15
import Derived.BigQuiet
namespace Go.Proofs.YtfnifgppblbjhaaGreatDoor
set_option maxHeartbeats 8000000
open Go Go.RowKit
set_option linter.unusedVariables false
set_option linter.unusedSimpArgs false
theorem wl_any {ops : Array Oper} {rest : List Oper} {op : Oper} {a : Act} {W : World} {Q : Exit → Act → World → Prop} (ty : TypeId) (y : Operand) (cs : List Value) (b o : Nat) (d : TypeDesc) (hu : Tryz.prog.underlying ty = some d) (hd : d.isRow = true) (hi : (Tryz.prog.info? ty).map (·.size) = some cs.length) (ho : op.op = .load ty y) (hw : Region.wanted op (yielded ops a.tmps) = true)
  (hx : a.eval y = .pointer (some ⟨b, o, none⟩)) (hc : W.rangeAt b o cs) (h : wpList Tryz.prog ops Q rest (a.put op.dst (.agg cs.toArray)) W) : wpList Tryz.prog ops Q (op :: rest) a W :=
 BigFrame.wpList_want hw fun K hK => wp_load_mid ty y ho b o hx cs _ hc hu hd hi (hK _ _ h)
theorem block_sub {w : World} {b : Nat} {cs : Array Value} {t : TypeId} (h : BlockIs w b cs t) (o n : Nat) : w.rangeAt b o ((cs.toList.drop o).take n) := fun j v hv => by
 refine h.cell ?_
 rw [List.getElem?_take] at hv
 split at hv
 ·rw [List.getElem?_drop] at hv; simpa using hv
 ·cases hv
structure Gr where
 fl : Int
 tv : Int
 lv : Int
 op : Int
 dw : Int
 ld : Int
 cl : Int
 ho : Int
 d : Int
 m : Int
def tmA (g : Gr) : Array Value := #[.int .i64 g.tv, .int .i64 g.lv, .int .i64 g.op, .int .i64 g.dw, .int .i64 g.ld, .int .i64 g.cl, .int .i64 g.ho]
def grA (g : Gr) : Array Value := #[.int .i64 g.fl, .int .i64 g.tv, .int .i64 g.lv, .int .i64 g.op, .int .i64 g.dw, .int .i64 g.ld, .int .i64 g.cl, .int .i64 g.ho, .int .i64 g.d, .int .i64 g.m]
def GrOk (g : Gr) : Prop := (2 ≤ g.fl ∧ g.fl ≤ 64) ∧ (1 ≤ g.tv ∧ g.tv ≤ 60) ∧ (1 ≤ g.lv ∧ g.lv ≤ 60) ∧ (1 ≤ g.op ∧ g.op ≤ 60) ∧ (1 ≤ g.dw ∧ g.dw ≤ 60) ∧ (1 ≤ g.ld ∧ g.ld ≤ 60) ∧ (1 ≤ g.cl ∧ g.cl ≤ 60) ∧ (0 ≤ g.ho ∧ g.ho ≤ 60) ∧ (1 ≤ g.d ∧ g.d ≤ 300) ∧ (0 ≤ g.m ∧ g.m ≤ 60)
theorem gear_info : (Tryz.prog.info? 91).map (·.size) = some 10 := by kernel_rfl
theorem car_info : (Tryz.prog.info? 85).map (·.size) = some 7 := by kernel_rfl
def do0 : List Value := [.int .i64 0, .int .i64 0, .int .i64 0]
def ca0 : List Value := [.int .i64 0, .int .i64 0, .int .i64 0, .int .i64 0, .int .i64 0, .int .i64 0, .int .i64 0]
theorem ddwithin_yes (n a b : Int) (w : World) (h : a ≤ n) (h' : n ≤ b) : Calls Tryz.prog 244 #[.int .i64 n, .int .i64 a, .int .i64 b] w fun e w' => e = .returned (.bool true) ∧ w = w' := by
 go_enter Tryz.func244, Tryz.ntmps244
 go_wp2
 all_goals first
  | (exfalso; omega)
  | (go_ret; refine ⟨boolE ?_, rfl⟩; simp [*])
theorem cwithin_yes (n a b : Int) (w : World) (h : a ≤ n) (h' : n ≤ b) : Calls Tryz.prog 116 #[.int .i64 n, .int .i64 a, .int .i64 b] w fun e w' => e = .returned (.bool true) ∧ w = w' := by
 go_enter Tryz.func116, Tryz.ntmps116
 go_wp2
 all_goals first
  | (exfalso; omega)
  | (go_ret; refine ⟨boolE ?_, rfl⟩; simp [*])
theorem dtimes_ok (g : Gr) (w : World) (h : GrOk g) : Calls Tryz.prog 229 #[.agg (tmA g)] w fun e w' => e = .returned (.bool true) ∧ Below w.heap.size w w' := by
 obtain ⟨_, ⟨a1, a2⟩, ⟨b1, b2⟩, ⟨d1, d2⟩, ⟨e1, e2⟩, ⟨f1, f2⟩, ⟨g1, g2⟩, ⟨i1, i2⟩, _, _⟩ := h
 have hB := BlockIs.new w (tmA g) 24
 have c0 := hB.cell (i := 0) (v := .int .i64 g.tv) rfl
 have c1 := hB.cell (i := 1) (v := .int .i64 g.lv) rfl
 have c2 := hB.cell (i := 2) (v := .int .i64 g.op) rfl
 have c3 := hB.cell (i := 3) (v := .int .i64 g.dw) rfl
 have c4 := hB.cell (i := 4) (v := .int .i64 g.ld) rfl
 have c5 := hB.cell (i := 5) (v := .int .i64 g.cl) rfl
 have hL := BlockIs.new (w.alloc (.cells (tmA g) 24)) #[.int .i64 g.tv, .int .i64 g.lv, .int .i64 g.op, .int .i64 g.dw, .int .i64 g.ld, .int .i64 g.cl] 3
 rw [World.size_alloc] at hL
 have hB2 := hB.alloc (.cells #[.int .i64 g.tv, .int .i64 g.lv, .int .i64 g.op, .int .i64 g.dw, .int .i64 g.ld, .int .i64 g.cl] 3)
 have HB := ((Below.refl w.heap.size w).alloc (Nat.le_refl _) (.cells (tmA g) 24)).alloc (by simp) (.cells #[.int .i64 g.tv, .int .i64 g.lv, .int .i64 g.op, .int .i64 g.dw, .int .i64 g.ld, .int .i64 g.cl] 3)
 obtain ⟨W, hW⟩ : ∃ W, (w.alloc (.cells (tmA g) 24)).alloc (.cells #[.int .i64 g.tv, .int .i64 g.lv, .int .i64 g.op, .int .i64 g.dw, .int .i64 g.ld, .int .i64 g.cl] 3) = W := ⟨_, rfl⟩
 rw [hW] at hL hB2 HB
 have hl (k : Nat) (hk : k < 6) : ∃ x, W.cell? ⟨w.heap.size + 1, k, none⟩ = some (.int .i64 x) ∧ 1 ≤ x ∧ x ≤ 60 := by
  rcases (show k = 0 ∨ k = 1 ∨ k = 2 ∨ k = 3 ∨ k = 4 ∨ k = 5 by omega) with e | e | e | e | e | e <;> subst e
  ·exact ⟨g.tv, hL.cell rfl, a1, a2⟩
  ·exact ⟨g.lv, hL.cell rfl, b1, b2⟩
  ·exact ⟨g.op, hL.cell rfl, d1, d2⟩
  ·exact ⟨g.dw, hL.cell rfl, e1, e2⟩
  ·exact ⟨g.ld, hL.cell rfl, f1, f2⟩
  ·exact ⟨g.cl, hL.cell rfl, g1, g2⟩
 have HW := Lib.hid hW
 have HL := Lib.hid hl
 have HBB := Lib.hid hB2
 have HB := Lib.hid HB
 clear hW hl hB2 hB hL
 go_enter Tryz.func229, Tryz.ntmps229
 go_wp2_with fail
 rw [HW.out]
 clear c0 c1 c2 c3 c4 c5
 go_loopw [4, 19] (fun _ iv wr => ∃ k : Nat, k ≤ 6 ∧ iv = .int .i64 (k : Int) ∧ W = wr) (fun _ iv _ => (6 - intOf iv).toNat)
 case atStart => exact ⟨0, by omega, rfl, rfl⟩
 case round =>
  obtain ⟨k, hk, rfl, rfl⟩ := hrel
  by_cases hc : k < 6
  ·obtain ⟨x, hcell, x1, x2⟩ := HL.out k hc
   go_wp2_with (go_at_call 244; refine (ddwithin_yes _ _ _ _ (by omega) (by omega)).mono ?_; rintro e w' ⟨rfl, rfl⟩)
   go_round
   case rel => exact ⟨k + 1, by omega, by go_num, trivial⟩
   case measure => simp [intOf]; omega
  ·have e : k = 6 := by omega
   subst e
   have t6 := HBB.out.cell (i := 6) (v := .int .i64 g.ho) rfl
   rw [show (((6 : Nat) : Int)) = 6 from rfl]
   go_wp2_with (go_at_call 244; refine (ddwithin_yes _ _ _ _ (by omega) (by omega)).mono ?_; rintro e w' ⟨rfl, rfl⟩)
   go_ret
   exact ⟨rfl, HB.out⟩
theorem dgear_ok (g : Gr) (w : World) (h : GrOk g) : Calls Tryz.prog 228 #[.agg (grA g)] w fun e w' => e = .returned (.bool true) ∧ Below w.heap.size w w' := by
 have hB := BlockIs.new w (grA g) 91
 have c0 := hB.cell (i := 0) (v := .int .i64 g.fl) rfl
 have c1 := hB.cell (i := 1) (v := .int .i64 g.tv) rfl
 have c2 := hB.cell (i := 2) (v := .int .i64 g.lv) rfl
 have c3 := hB.cell (i := 3) (v := .int .i64 g.op) rfl
 have c4 := hB.cell (i := 4) (v := .int .i64 g.dw) rfl
 have c5 := hB.cell (i := 5) (v := .int .i64 g.ld) rfl
 have c6 := hB.cell (i := 6) (v := .int .i64 g.cl) rfl
 have c7 := hB.cell (i := 7) (v := .int .i64 g.ho) rfl
 have c8 := hB.cell (i := 8) (v := .int .i64 g.d) rfl
 have c9 := hB.cell (i := 9) (v := .int .i64 g.m) rfl
 have HB := (Below.refl w.heap.size w).alloc (Nat.le_refl _) (.cells (grA g) 91)
 have HK := Lib.hid hB
 clear hB
 go_enter Tryz.func228, Tryz.ntmps228
 go_wp2_with fail
 refine (dtimes_ok g _ h).mono ?_; rintro e w1 ⟨rfl, hb1⟩
 have hB1 := HK.out.kept hb1
 clear c0 c1 c2 c3 c4 c5 c6 c7 c8 c9
 have c0 := hB1.cell (i := 0) (v := .int .i64 g.fl) rfl
 have c8 := hB1.cell (i := 8) (v := .int .i64 g.d) rfl
 have c9 := hB1.cell (i := 9) (v := .int .i64 g.m) rfl
 have HB1 := Lib.hid (HB.trans (hb1.mono HB.size))
 obtain ⟨⟨a1, a2⟩, _, _, _, _, _, _, _, ⟨b1, b2⟩, ⟨d1, d2⟩⟩ := h
 clear HK hB1 hb1 HB
 go_wp2_with (go_at_call 244; refine (ddwithin_yes _ _ _ _ (by omega) (by omega)).mono ?_; rintro e w' ⟨rfl, rfl⟩)
 go_ret
 exact ⟨rfl, HB1.out⟩
def phA : Array Value := #[.int .i64 0, .func (.func 247) #[] #[], .int .i64 60, .func (.func 248) #[] #[], .int .i64 300, .func (.func 250) #[] #[], .int .i64 60, .func (.func 251) #[] #[]]
theorem res_row {fn : Func} {p : Tmp} {ty : TypeId} (h : fn.results = #[.cell p ty]) (tmps : Array Value) (W : World) (b : Nat) (t : TypeId) (cs : Array Value) (d : TypeDesc) (hp : tmps.getD p undef = .pointer (some ⟨b, 0, none⟩)) (hc : BlockIs W b cs t) (hu : Tryz.prog.underlying ty = some d) (hd : d.isRow = true) (hi : (Tryz.prog.info? ty).map (·.size) = some cs.size) :
  (results fn tmps).run Tryz.prog W = .ok (.agg cs) W := by
 cases d <;> first | exact results_cell_row h tmps W b t cs (0, 0) _ hp hc hu rfl hi | exact absurd hd (by simp [TypeDesc.isRow])
theorem ph_info : (Tryz.prog.info? 362).map (·.size) = some 8 := by kernel_rfl
theorem dphases_ok (w : World) : Calls Tryz.prog 230 #[] w fun e w' => e = .returned (.agg #[.int .i64 0, .func (.func 247) #[] #[], .int .i64 60, .func (.func 248) #[] #[], .int .i64 300, .func (.func 250) #[] #[], .int .i64 60, .func (.func 251) #[] #[]]) ∧ Below w.heap.size w w' := by
 go_enter Tryz.func230, Tryz.ntmps230
 go_wp2_with fail
 exact bodyPost_ret (res_row rfl _ _ w.heap.size 362 phA _ rfl (BlockIs.new w phA _) Tryz.underlying362 rfl ph_info) rfl ⟨rfl, (Below.refl w.heap.size w).alloc (Nat.le_refl _) _⟩
theorem ph_index (w : World) : (Instr.index 362 (.agg #[.int .i64 0, .func (.func 247) #[] #[], .int .i64 60, .func (.func 248) #[] #[], .int .i64 300, .func (.func 250) #[] #[], .int .i64 60, .func (.func 251) #[] #[]]) (.int .i64 0)).run Tryz.prog w = .ok (.agg #[.int .i64 0, .func (.func 247) #[] #[]]) w := by
 have hu : ∀ w, Sem.run Tryz.prog (underlying 362) w = .ok (TypeDesc.array 4 361) w := run_underlying Tryz.underlying362
 simp [Instr.index, hu, asIntOf, go_sem, Tryz.sizeOf361, Tryz.isAgg361]
theorem ph_field (w : World) : (Instr.field 361 (.agg #[.int .i64 0, .func (.func 247) #[] #[]]) 0).run Tryz.prog w = .ok (.int .i64 0) w := by
 have hu : ∀ w, Sem.run Tryz.prog (underlying 361) w = .ok _ w := run_underlying Tryz.underlying361
 simp [Instr.field, hu, asAgg, go_sem, Tryz.sizeOf3, Tryz.isAgg3]
set_option maxRecDepth 100000 in
theorem dcheck_ok (w : World) : Calls Tryz.prog 217 #[.agg do0.toArray] w fun e w' => e = .returned (.int .i64 0) ∧ Below w.heap.size w w' := by
 have hB := BlockIs.new w do0.toArray 83
 have c0 := hB.cell (i := 0) (v := .int .i64 0) rfl
 have HB := (Below.refl w.heap.size w).alloc (Nat.le_refl _) (.cells do0.toArray 83)
 have HK := Lib.hid hB
 clear hB
 go_enter Tryz.func217, Tryz.ntmps217
 go_wp2_with (go_at_call 244; refine (ddwithin_yes _ _ _ _ (by omega) (by omega)).mono ?_; rintro e w' ⟨rfl, rfl⟩)
 have hix := ph_index
 have hfl := ph_field
 have hw1 := Lib.hid (show ∀ W, Below (w.alloc (.cells do0.toArray 83)).heap.size (w.alloc (.cells do0.toArray 83)) W → W.cell? ⟨w.heap.size, 0, none⟩ = some (.int .i64 0) ∧ W.cell? ⟨w.heap.size, 1, none⟩ = some (.int .i64 0) ∧ W.cell? ⟨w.heap.size, 2, none⟩ = some (.int .i64 0) ∧ Below w.heap.size w W from fun W h => ⟨(HK.out.kept h).cell rfl, (HK.out.kept h).cell rfl, (HK.out.kept h).cell rfl, HB.trans (h.mono HB.size)⟩)
 go_region_with (go_at_call 230; refine (dphases_ok _).mono ?_; rintro e w1 ⟨rfl, hb1⟩; obtain ⟨x0, x1, x2, hB1⟩ := hw1.out _ ((Below.refl _ _).drew.trans (hb1.mono (Nat.le_refl _))))
 all_goals
  have HB1 := Lib.hid hB1
  clear hB1 hix hfl hw1 HK HB hb1
  go_wp2_with (go_at_call 244; refine (ddwithin_yes _ _ _ _ (by omega) (by omega)).mono ?_; rintro e w' ⟨rfl, rfl⟩)
  go_ret
  exact ⟨rfl, HB1.out⟩
theorem drest_ok (g : Gr) (w : World) (h : GrOk g) : Calls Tryz.prog 183 #[.agg (grA g), .agg do0.toArray] w fun e w' => e = .returned (.tuple #[.int .i64 0, .int .i64 0]) ∧ Below w.heap.size w w' := by
 have hB := (BlockIs.new w (grA g) 91).alloc (.cells do0.toArray 83)
 have hD := BlockIs.new (w.alloc (.cells (grA g) 91)) do0.toArray 83
 rw [World.size_alloc] at hD
 have HB := ((Below.refl w.heap.size w).alloc (Nat.le_refl _) (.cells (grA g) 91)).alloc (by simp) (.cells do0.toArray 83)
 have c0 := hB.cell (i := 0) (v := .int .i64 g.fl) rfl
 have c1 := hB.cell (i := 1) (v := .int .i64 g.tv) rfl
 have c2 := hB.cell (i := 2) (v := .int .i64 g.lv) rfl
 have c3 := hB.cell (i := 3) (v := .int .i64 g.op) rfl
 have c4 := hB.cell (i := 4) (v := .int .i64 g.dw) rfl
 have c5 := hB.cell (i := 5) (v := .int .i64 g.ld) rfl
 have c6 := hB.cell (i := 6) (v := .int .i64 g.cl) rfl
 have c7 := hB.cell (i := 7) (v := .int .i64 g.ho) rfl
 have c8 := hB.cell (i := 8) (v := .int .i64 g.d) rfl
 have c9 := hB.cell (i := 9) (v := .int .i64 g.m) rfl
 have HK := Lib.hid hB
 have HD := Lib.hid hD
 clear hB hD
 go_enter Tryz.func183, Tryz.ntmps183
 go_wp2_with fail
 refine (dgear_ok g _ h).mono ?_; rintro e w1 ⟨rfl, hb1⟩
 clear c0 c1 c2 c3 c4 c5 c6 c7 c8 c9
 have HD1 := Lib.hid (HD.out.kept hb1)
 have HB1 := HB.trans (hb1.mono HB.size)
 have x0 := HD1.out.cell (i := 0) (v := .int .i64 0) rfl
 have x1 := HD1.out.cell (i := 1) (v := .int .i64 0) rfl
 have x2 := HD1.out.cell (i := 2) (v := .int .i64 0) rfl
 clear hb1 HB HD HK
 go_wp2_with fail
 refine (dcheck_ok _).mono ?_; rintro e w2 ⟨rfl, hb2⟩
 have HD2 := HD1.out.kept hb2
 have HB2 := Lib.hid (HB1.trans (hb2.mono HB1.size))
 clear x0 x1 x2
 have x0 := HD2.cell (i := 0) (v := .int .i64 0) rfl
 have x1 := HD2.cell (i := 1) (v := .int .i64 0) rfl
 clear HB1 HD1 HD2 hb2
 go_wp2_with fail
 go_ret2
 exact ⟨rfl, HB2.out⟩
theorem carCheck_ok (fl : Int) (w : World) (h1 : 2 ≤ fl) (h2 : fl ≤ 64) : Calls Tryz.prog 171 #[.int .i64 fl, .agg ca0.toArray] w fun e w' => e = .returned (.int .i64 0) ∧ Below w.heap.size w w' := by
 have hB := BlockIs.new w ca0.toArray 85
 have HB := (Below.refl w.heap.size w).alloc (Nat.le_refl _) (.cells ca0.toArray 85)
 have c0 := hB.cell (i := 0) (v := .int .i64 0) rfl
 have c1 := hB.cell (i := 1) (v := .int .i64 0) rfl
 have c2 := hB.cell (i := 2) (v := .int .i64 0) rfl
 have c3 := hB.cell (i := 3) (v := .int .i64 0) rfl
 have c4 := hB.cell (i := 4) (v := .int .i64 0) rfl
 have c5 := hB.cell (i := 5) (v := .int .i64 0) rfl
 have c6 := hB.cell (i := 6) (v := .int .i64 0) rfl
 have HK := Lib.hid hB
 clear hB
 go_enter Tryz.func171, Tryz.ntmps171
 go_wp2_with (go_at_call 116; refine (cwithin_yes _ _ _ _ (by omega) (by omega)).mono ?_; rintro e w' ⟨rfl, rfl⟩)
 refine (dcheck_ok _).mono ?_; rintro e w1 ⟨rfl, hb1⟩
 clear c0 c1 c2 c3 c4 c5 c6
 have hB := HK.out.kept hb1
 have c0 := hB.cell (i := 0) (v := .int .i64 0) rfl
 have c1 := hB.cell (i := 1) (v := .int .i64 0) rfl
 have c2 := hB.cell (i := 2) (v := .int .i64 0) rfl
 have c3 := hB.cell (i := 3) (v := .int .i64 0) rfl
 have c4 := hB.cell (i := 4) (v := .int .i64 0) rfl
 have c5 := hB.cell (i := 5) (v := .int .i64 0) rfl
 have c6 := hB.cell (i := 6) (v := .int .i64 0) rfl
 have HB1 := Lib.hid (HB.trans (hb1.mono HB.size))
 clear hb1 HB HK hB
 go_wp2_with fail
 go_ret
 exact ⟨rfl, HB1.out⟩
theorem carcheck_ok (g : Gr) (w : World) (h : GrOk g) : Calls Tryz.prog 115 #[.agg (grA g), .agg ca0.toArray] w fun e w' => e = .returned (.int .i64 0) ∧ Below w.heap.size w w' := by
 have hB := (BlockIs.new w (grA g) 91).alloc (.cells ca0.toArray 85)
 have hD := BlockIs.new (w.alloc (.cells (grA g) 91)) ca0.toArray 85
 rw [World.size_alloc] at hD
 have HB := ((Below.refl w.heap.size w).alloc (Nat.le_refl _) (.cells (grA g) 91)).alloc (by simp) (.cells ca0.toArray 85)
 have c0 := hB.cell (i := 0) (v := .int .i64 g.fl) rfl
 have c1 := hB.cell (i := 1) (v := .int .i64 g.tv) rfl
 have c2 := hB.cell (i := 2) (v := .int .i64 g.lv) rfl
 have c3 := hB.cell (i := 3) (v := .int .i64 g.op) rfl
 have c4 := hB.cell (i := 4) (v := .int .i64 g.dw) rfl
 have c5 := hB.cell (i := 5) (v := .int .i64 g.ld) rfl
 have c6 := hB.cell (i := 6) (v := .int .i64 g.cl) rfl
 have c7 := hB.cell (i := 7) (v := .int .i64 g.ho) rfl
 have c8 := hB.cell (i := 8) (v := .int .i64 g.d) rfl
 have c9 := hB.cell (i := 9) (v := .int .i64 g.m) rfl
 have HK := Lib.hid hB
 have HD := Lib.hid hD
 clear hB hD
 go_enter Tryz.func115, Tryz.ntmps115
 go_wp2_with fail
 refine (drest_ok g _ h).mono ?_; rintro e w1 ⟨rfl, hb1⟩
 clear c0 c1 c2 c3 c4 c5 c6 c7 c8 c9
 have hB := HK.out.kept hb1
 have hD := HD.out.kept hb1
 have y0 := hB.cell (i := 0) (v := .int .i64 g.fl) rfl
 have c0 := hD.cell (i := 0) (v := .int .i64 0) rfl
 have c1 := hD.cell (i := 1) (v := .int .i64 0) rfl
 have c2 := hD.cell (i := 2) (v := .int .i64 0) rfl
 have c3 := hD.cell (i := 3) (v := .int .i64 0) rfl
 have c4 := hD.cell (i := 4) (v := .int .i64 0) rfl
 have c5 := hD.cell (i := 5) (v := .int .i64 0) rfl
 have c6 := hD.cell (i := 6) (v := .int .i64 0) rfl
 have HB1 := HB.trans (hb1.mono HB.size)
 clear hb1 HB HK hB hD HD
 go_wp2_with fail
 refine (carCheck_ok _ _ h.1.1 h.1.2).mono ?_; rintro e w2 ⟨rfl, hb2⟩
 have HB2 := Lib.hid (HB1.trans (hb2.mono HB1.size))
 clear HB1 hb2 c0 c1 c2 c3 c4 c5 c6 y0
 go_wp2_with fail
 go_ret
 exact ⟨rfl, HB2.out⟩
def caA (f d p l : Int) : Array Value := #[.int .i64 f, .int .i64 d, .int .i64 p, .int .i64 l, .int .i64 0, .int .i64 0, .int .i64 0]
def wkA (f d p l : Int) (g : Gr) : Array Value := #[.int .i64 f, .int .i64 d, .int .i64 p, .int .i64 l, .int .i64 0, .int .i64 0, .int .i64 0, .int .i64 g.fl, .int .i64 g.tv, .int .i64 g.lv, .int .i64 g.op, .int .i64 g.dw, .int .i64 g.ld, .int .i64 g.cl, .int .i64 g.ho, .int .i64 g.d, .int .i64 g.m]
theorem wk_put {W : World} {b : Nat} {t : TypeId} {g : Gr} {f d p l : Int} (h : BlockIs W b (wkA f d p l g) t) (f' d' p' l' : Int) : BlockIs (W.setCells b 0 (caA f' d' p' l').toList) b (wkA f' d' p' l' g) t :=
 block_setCells (caA f' d' p' l').toList (caA f d p l).toList [] (grA g).toList W rfl h
theorem results_cct {fn : Func} {p q u : Tmp} {ty tz : TypeId} (h : fn.results = #[.cell p ty, .cell q tz, .tmp u]) (tmps : Array Value) (P : Program) (w : World) :
  (results fn tmps).run P w = ((asAddr (tmps.getD p undef)).run P w).andThen fun a w₁ => ((loadVar ty a).run P w₁).andThen fun v w₂ => ((asAddr (tmps.getD q undef)).run P w₂).andThen fun a' w₃ => ((loadVar tz a').run P w₃).andThen fun v' w₄ => .ok (.tuple #[v, v', tmps.getD u undef]) w₄ := by
 simp only [results, h]
 simp [Sem.run_bind, Result.andThen]
theorem res_cct {fn : Func} {p q u : Tmp} {ty tz : TypeId} (h : fn.results = #[.cell p ty, .cell q tz, .tmp u]) (tmps : Array Value) {P : Program} (w : World) (b c : Nat) (t s : TypeId) (cs ds : Array Value) (d e : TypeDesc)
  (hp : tmps.getD p undef = .pointer (some ⟨b, 0, none⟩)) (hc : BlockIs w b cs t) (hu : P.underlying ty = some d) (hd : d.isRow = true) (hi : (P.info? ty).map (·.size) = some cs.size)
  (hq : tmps.getD q undef = .pointer (some ⟨c, 0, none⟩)) (he : BlockIs w c ds s) (hv : P.underlying tz = some e) (hf : e.isRow = true) (hj : (P.info? tz).map (·.size) = some ds.size) :
  (results fn tmps).run P w = .ok (.tuple #[.agg cs, .agg ds, tmps.getD u undef]) w := by
 have hl := run_loadVar_mid (P := P) w b 0 ty cs.toList d (fun j v hv => by rw [Nat.zero_add]; exact hc.cell (by simpa using hv)) hu hd (by simpa using hi)
 have hm := run_loadVar_mid (P := P) w c 0 tz ds.toList e (fun j v hv => by rw [Nat.zero_add]; exact he.cell (by simpa using hv)) hv hf (by simpa using hj)
 rw [results_cct h, hp, hq]
 simp only [asAddr, Sem.run_pure, Result.andThen_ok, hl, hm]
theorem wbegin_ok (g : Gr) (b : Nat) (cmd : Int) (t : TypeId) (w : World) (h : GrOk g) (hb : BlockIs w b (wkA 0 0 0 0 g) t) (hc : cmd = 0 ∨ cmd = 1) :
  Calls Tryz.prog 117 #[.pointer (some ⟨b, 0, none⟩), .int .i64 cmd] w fun e w' => e = .returned (.tuple #[]) ∧ BlockIs w' b (if cmd = 1 then wkA 0 1 1 g.tv g else wkA 0 0 0 0 g) t ∧ Turn (fun k => k = b) w w' := by
 obtain ⟨⟨a1, a2⟩, _⟩ := h
 have hb2 : ∀ n, BlockIs (w.drewN n) b (wkA 0 0 0 0 g) t := fun n => hb
 have HK := Lib.hid hb2
 have c0 := hb.cell (i := 0) (v := .int .i64 0) rfl
 have c1 := hb.cell (i := 1) (v := .int .i64 0) rfl
 have c2 := hb.cell (i := 2) (v := .int .i64 0) rfl
 have c3 := hb.cell (i := 3) (v := .int .i64 0) rfl
 have c4 := hb.cell (i := 4) (v := .int .i64 0) rfl
 have c5 := hb.cell (i := 5) (v := .int .i64 0) rfl
 have c6 := hb.cell (i := 6) (v := .int .i64 0) rfl
 have c7 := hb.cell (i := 7) (v := .int .i64 g.fl) rfl
 have c8 := hb.cell (i := 8) (v := .int .i64 g.tv) rfl
 have c9 := hb.cell (i := 9) (v := .int .i64 g.lv) rfl
 have c10 := hb.cell (i := 10) (v := .int .i64 g.op) rfl
 have c11 := hb.cell (i := 11) (v := .int .i64 g.dw) rfl
 have c12 := hb.cell (i := 12) (v := .int .i64 g.ld) rfl
 have c13 := hb.cell (i := 13) (v := .int .i64 g.cl) rfl
 have c14 := hb.cell (i := 14) (v := .int .i64 g.ho) rfl
 have c15 := hb.cell (i := 15) (v := .int .i64 g.d) rfl
 have c16 := hb.cell (i := 16) (v := .int .i64 g.m) rfl
 clear hb hb2
 have q1 : ∀ n, (w.drewN n).frozen? ⟨b, 1, none⟩ = false ∧ (w.drewN n).frozen? ⟨b, 2, none⟩ = false ∧ (w.drewN n).frozen? ⟨b, 3, none⟩ = false ∧ (w.drewN n).cell? ⟨b, 8, none⟩ = some (.int .i64 g.tv) ∧ (w.drewN n).cell? ⟨b, 1, none⟩ = some (.int .i64 0) ∧ (w.drewN n).cell? ⟨b, 2, none⟩ = some (.int .i64 0) ∧ (w.drewN n).cell? ⟨b, 3, none⟩ = some (.int .i64 0) := fun n => ⟨(HK.out n).free 1, (HK.out n).free 2, (HK.out n).free 3, (HK.out n).cell rfl, (HK.out n).cell rfl, (HK.out n).cell rfl, (HK.out n).cell rfl⟩
 have Q1 := Lib.hid q1
 clear q1
 rcases hc with e | e <;> subst e
 ·go_enter Tryz.func117, Tryz.ntmps117
  go_wp2_with fail
  go_quiet (fail)
  go_wp2_with fail
  go_end0
  exact ⟨rfl, HK.out _, Turn.drewN (Turn.refl _ _) _⟩
 ·go_enter Tryz.func117, Tryz.ntmps117
  go_wp2_with fail
  go_quiet ((go_at_call 116; exact quiet_left (cwithin_yes _ _ _ _ (by omega) (by omega))))
  obtain ⟨z1, z2, z3, y8, y1, y2, y3⟩ := Q1.out nq
  have HK1 := Lib.hid (HK.out nq)
  clear c0 c1 c2 c3 c4 c5 c6 c7 c8 c9 c10 c11 c12 c13 c14 c15 c16 Q1 HK
  go_wp2_with fail
  go_end0
  exact ⟨rfl, ((HK1.out.set 2 (.int .i64 1)).set 1 (.int .i64 1)).set 3 (.int .i64 g.tv), (((Turn.drewN (Turn.refl (fun k => k = b) _) _).setCell rfl 2 _).setCell rfl 1 _).setCell rfl 3 _⟩
theorem wdone_ok (v : Bool) (g : Gr) (b : Nat) (l : Int) (t : TypeId) (w : World) (l1 : 1 ≤ l) (l2 : l ≤ 60) (hv : decide (l - 1 = 0) = v) (hb : BlockIs w b (wkA 0 1 1 l g) t) :
  Calls Tryz.prog 184 #[.pointer (some ⟨b, 0, none⟩)] w fun e w' => e = .returned (.bool v) ∧ BlockIs w' b (wkA 0 1 1 (l - 1) g) t ∧ Turn (fun k => k = b) w w' := by
 have c3 := hb.cell (i := 3) (v := .int .i64 l) rfl
 have z3 := hb.free 3
 have hb2 := hb.set 3 (.int .i64 (l - 1))
 have d3 := hb2.cell (i := 3) (v := .int .i64 (l - 1)) rfl
 have HK := Lib.hid (show BlockIs (w.setCell ⟨b, 3, none⟩ (.int .i64 (l - 1))) b (wkA 0 1 1 (l - 1) g) t from hb2)
 clear hb hb2
 have e1 : IntKind.i64.wrap (l - 1) = l - 1 := IntWalk.i64_in _ ⟨by omega, by omega⟩
 go_enter Tryz.func184, Tryz.ntmps184
 go_wp2_with fail
 go_ret
 exact ⟨boolE (by first | exact hv | simpa using hv), HK.out, (Turn.refl (fun k => k = b) _).setCell rfl 3 _⟩
theorem wtick_stay (g : Gr) (b : Nat) (t : TypeId) (w : World) (hb : BlockIs w b (wkA 0 0 0 0 g) t) :
  Calls Tryz.prog 118 #[.pointer (some ⟨b, 0, none⟩), .bool false] w fun e w' => e = .returned (.bool false) ∧ w = w' := by
 have c2 := hb.cell (i := 2) (v := .int .i64 0) rfl
 clear hb
 go_enter Tryz.func118, Tryz.ntmps118
 go_wp2_with fail
 go_ret
 exact ⟨rfl, rfl⟩
set_option maxRecDepth 100000 in
theorem wtick_up (g : Gr) (b : Nat) (t : TypeId) (w : World) (h : GrOk g) (hb : BlockIs w b (wkA 0 1 1 g.tv g) t) :
  Calls Tryz.prog 118 #[.pointer (some ⟨b, 0, none⟩), .bool false] w fun e w' => e = .returned (.bool false) ∧ (∃ f d p l, BlockIs w' b (wkA f d p l g) t) ∧ Turn (fun k => k = b) w w' := by
 obtain ⟨_, ⟨t1, t2⟩, _⟩ := h
 have c2 := hb.cell (i := 2) (v := .int .i64 1) rfl
 have HB := Lib.hid hb
 clear hb
 go_enter Tryz.func118, Tryz.ntmps118
 go_wp2_with fail
 obtain ⟨v, hv⟩ : ∃ v : Bool, decide (g.tv - 1 = 0) = v := ⟨_, rfl⟩
 refine (wdone_ok v g b g.tv t _ t1 t2 hv HB.out).mono ?_; rintro e w1 ⟨rfl, hb1, hT1⟩
 clear c2 HB
 have hb2 : BlockIs w1.drew b (wkA 0 1 1 (g.tv - 1) g) t := hb1
 have HK := Lib.hid hb1
 have HK2 := Lib.hid hb2
 have HT := Lib.hid hT1
 have c0 := hb2.cell (i := 0) (v := .int .i64 0) rfl
 have c1 := hb2.cell (i := 1) (v := .int .i64 1) rfl
 have c2 := hb2.cell (i := 2) (v := .int .i64 1) rfl
 have c3 := hb2.cell (i := 3) (v := .int .i64 (g.tv - 1)) rfl
 have c4 := hb2.cell (i := 4) (v := .int .i64 0) rfl
 have c5 := hb2.cell (i := 5) (v := .int .i64 0) rfl
 have c6 := hb2.cell (i := 6) (v := .int .i64 0) rfl
 have z0 := hb2.free 0
 have z1 := hb2.free 1
 have z2 := hb2.free 2
 have z3 := hb2.free 3
 have z4 := hb2.free 4
 have z5 := hb2.free 5
 have z6 := hb2.free 6
 have hth := there_of hb2 0 7 (by show 7 ≤ 17; omega)
 have HTH := Lib.hid hth
 clear hb1 hb2 hT1 hth
 clear hv
 cases v
 ·go_wp2_with fail
  go_ret
  exact ⟨rfl, ⟨_, _, _, _, HK.out⟩, HT.out⟩
 ·go_upto_region 5 with fail
  go_still_tail 15, (by kernel_rfl)
  change wpList _ _ _ _ _ w1.drew
  go_wp2_with ((with_reducible show wpList _ _ _ _ _ _); refine ws_at 85 (.tmp 29) (.tmp 27) b 0 (caA 1 0 0 0) rfl rfl rfl rfl 7 rfl HTH.out car_info (by simp [caA, Value.oneCell']) ?_)
  intro W2 hW2
  have k2 := wk_put HK2.out 1 0 0 0
  have hT := turn_setCells (T := fun k => k = b) (b := b) rfl (caA 1 0 0 0).toList 0 _ HT.out.drew
  rw [← hW2.out] at k2 hT
  have HA := Lib.hid k2
  have HT2 := Lib.hid hT
  clear k2 hT hW2 c0 c1 c2 c3 c4 c5 c6 z0 z1 z2 z3 z4 z5 z6 HK2 HTH HT HK
  go_wp2_with fail
  go_ret
  exact ⟨rfl, ⟨_, _, _, _, HA.out⟩, HT2.out⟩
theorem load_x {op : Oper} {a : Act} (ty : TypeId) (y : Operand) (cs : List Value) (b o : Nat) (d : TypeDesc) (hu : Tryz.prog.underlying ty = some d) (hd : d.isRow = true) (hi : (Tryz.prog.info? ty).map (·.size) = some cs.length) (ho : op.op = .load ty y) (hx : a.eval y = .pointer (some ⟨b, o, none⟩)) (w : World)
  (hS : w.rangeAt b o cs) : (execOp a.eval op).run Tryz.prog w = .ok (.value (.agg cs.toArray)) w := by
 have := run_loadAt_mid (P := Tryz.prog) w b o ty cs _ hS hu hd hi
 unfold execOp
 simp only [ho, hx]
 simp [Sem.run_bind, this]
theorem out_info : (Tryz.prog.info? 89).map (·.size) = some 4 := by kernel_rfl
def ouA (m : Int) : Array Value := #[.int .i64 m, .int .i64 0, .int .i64 0, .bool false]
theorem wtick_any (g : Gr) (b : Nat) (dd pp ll : Int) (t : TypeId) (w : World) (h : GrOk g) (hb : BlockIs w b (wkA 0 dd pp ll g) t) (hd : (dd = 0 ∧ pp = 0 ∧ ll = 0) ∨ (dd = 1 ∧ pp = 1 ∧ ll = g.tv)) :
  Calls Tryz.prog 118 #[.pointer (some ⟨b, 0, none⟩), .bool false] w fun e w' => e = .returned (.bool false) ∧ (∃ f d p l, BlockIs w' b (wkA f d p l g) t) ∧ Turn (fun k => k = b) w w' := by
 rcases hd with ⟨rfl, rfl, rfl⟩ | ⟨rfl, rfl, rfl⟩
 ·refine (wtick_stay g b t w hb).mono ?_
  rintro e w' ⟨rfl, rfl⟩
  exact ⟨rfl, ⟨_, _, _, _, hb⟩, Turn.refl _ _⟩
 ·exact wtick_up g b t w h hb
def StepP (w : World) (e : Ending) (w' : World) : Prop :=
 ∃ f d p l m : Int, e = .returned (.tuple #[.agg (caA f d p l), .agg (ouA m), .int .i64 0]) ∧ Below w.heap.size w w'
set_option maxRecDepth 100000 in
theorem carStep_ok (g : Gr) (cmd : Int) (w : World) (h : GrOk g) (hc : cmd = 0 ∨ cmd = 1) : Calls Tryz.prog 60 #[.agg (grA g), .agg ca0.toArray, .agg #[.int .i64 cmd, .bool false, .bool false]] w (StepP w) := by
 have hG := ((((BlockIs.new w (grA g) 91).alloc (.cells ca0.toArray 85)).alloc (.cells #[.int .i64 cmd, .bool false, .bool false] 142)).alloc (.cells #[.int .i64 0, .int .i64 0, .int .i64 0, .int .i64 0, .int .i64 0, .int .i64 0, .int .i64 0] 85)).alloc (.cells #[.int .i64 0, .int .i64 0, .int .i64 0, .bool false] 89)
 have hC := (((BlockIs.new (w.alloc (.cells (grA g) 91)) ca0.toArray 85).alloc (.cells #[.int .i64 cmd, .bool false, .bool false] 142)).alloc (.cells #[.int .i64 0, .int .i64 0, .int .i64 0, .int .i64 0, .int .i64 0, .int .i64 0, .int .i64 0] 85)).alloc (.cells #[.int .i64 0, .int .i64 0, .int .i64 0, .bool false] 89)
 simp only [World.size_alloc] at hC
 have hO := ((BlockIs.new ((w.alloc (.cells (grA g) 91)).alloc (.cells ca0.toArray 85)) #[.int .i64 cmd, .bool false, .bool false] 142).alloc (.cells #[.int .i64 0, .int .i64 0, .int .i64 0, .int .i64 0, .int .i64 0, .int .i64 0, .int .i64 0] 85)).alloc (.cells #[.int .i64 0, .int .i64 0, .int .i64 0, .bool false] 89)
 simp only [World.size_alloc] at hO
 have hR := (BlockIs.new (((w.alloc (.cells (grA g) 91)).alloc (.cells ca0.toArray 85)).alloc (.cells #[.int .i64 cmd, .bool false, .bool false] 142)) #[.int .i64 0, .int .i64 0, .int .i64 0, .int .i64 0, .int .i64 0, .int .i64 0, .int .i64 0] 85).alloc (.cells #[.int .i64 0, .int .i64 0, .int .i64 0, .bool false] 89)
 simp only [World.size_alloc] at hR
 have hS := BlockIs.new ((((w.alloc (.cells (grA g) 91)).alloc (.cells ca0.toArray 85)).alloc (.cells #[.int .i64 cmd, .bool false, .bool false] 142)).alloc (.cells #[.int .i64 0, .int .i64 0, .int .i64 0, .int .i64 0, .int .i64 0, .int .i64 0, .int .i64 0] 85)) #[.int .i64 0, .int .i64 0, .int .i64 0, .bool false] 89
 simp only [World.size_alloc] at hS
 have HB := ((((((Below.refl w.heap.size w).alloc (by exact Nat.le_refl _) (.cells (grA g) 91)).alloc (by simp only [World.size_alloc]; omega) (.cells ca0.toArray 85)).alloc (by simp only [World.size_alloc]; omega) (.cells #[.int .i64 cmd, .bool false, .bool false] 142)).alloc (by simp only [World.size_alloc]; omega) (.cells #[.int .i64 0, .int .i64 0, .int .i64 0, .int .i64 0, .int .i64 0, .int .i64 0, .int .i64 0] 85)).alloc (by simp only [World.size_alloc]; omega) (.cells #[.int .i64 0, .int .i64 0, .int .i64 0, .bool false] 89))
 have c0 := hG.cell (i := 0) (v := .int .i64 g.fl) rfl
 have c1 := hG.cell (i := 1) (v := .int .i64 g.tv) rfl
 have c2 := hG.cell (i := 2) (v := .int .i64 g.lv) rfl
 have c3 := hG.cell (i := 3) (v := .int .i64 g.op) rfl
 have c4 := hG.cell (i := 4) (v := .int .i64 g.dw) rfl
 have c5 := hG.cell (i := 5) (v := .int .i64 g.ld) rfl
 have c6 := hG.cell (i := 6) (v := .int .i64 g.cl) rfl
 have c7 := hG.cell (i := 7) (v := .int .i64 g.ho) rfl
 have c8 := hG.cell (i := 8) (v := .int .i64 g.d) rfl
 have c9 := hG.cell (i := 9) (v := .int .i64 g.m) rfl
 have d0 := hC.cell (i := 0) (v := .int .i64 0) rfl
 have d1 := hC.cell (i := 1) (v := .int .i64 0) rfl
 have d2 := hC.cell (i := 2) (v := .int .i64 0) rfl
 have d3 := hC.cell (i := 3) (v := .int .i64 0) rfl
 have d4 := hC.cell (i := 4) (v := .int .i64 0) rfl
 have d5 := hC.cell (i := 5) (v := .int .i64 0) rfl
 have d6 := hC.cell (i := 6) (v := .int .i64 0) rfl
 have HG := Lib.hid hG
 have HC := Lib.hid hC
 have HO := Lib.hid hO
 have HR := Lib.hid hR
 have HS := Lib.hid hS
 clear hG hC hO hR hS
 have hcb : (cmd = 0 ∨ cmd = 1) := hc
 have hc0 : 0 ≤ cmd := by omega
 have hc3 : cmd ≤ 3 := by omega
 go_enter Tryz.func60, Tryz.ntmps60
 go_wp2_with fail
 refine (carcheck_ok g _ h).mono ?_; rintro e w1 ⟨rfl, hb1⟩
 clear c0 c1 c2 c3 c4 c5 c6 c7 c8 c9 d0 d1 d2 d3 d4 d5 d6
 have hG := HG.out.kept hb1
 have hC := HC.out.kept hb1
 have hO := HO.out.kept hb1
 have hR := HR.out.kept hb1
 have hS := HS.out.kept hb1
 have HB1 := HB.trans (hb1.mono HB.size)
 clear HG HC HO HR HS HB hb1
 have hG1 := hG.alloc (.cells #[.int .i64 0, .int .i64 0, .int .i64 0, .bool false] 89)
 have hC1 := hC.alloc (.cells #[.int .i64 0, .int .i64 0, .int .i64 0, .bool false] 89)
 have d0 := hC.cell (i := 0) (v := .int .i64 0) rfl
 have d1 := hC.cell (i := 1) (v := .int .i64 0) rfl
 have d2 := hC.cell (i := 2) (v := .int .i64 0) rfl
 have d3 := hC.cell (i := 3) (v := .int .i64 0) rfl
 have d4 := hC.cell (i := 4) (v := .int .i64 0) rfl
 have d5 := hC.cell (i := 5) (v := .int .i64 0) rfl
 have d6 := hC.cell (i := 6) (v := .int .i64 0) rfl
 have o0 := hO.cell (i := 0) (v := .int .i64 cmd) rfl
 have o1 := hO.cell (i := 1) (v := .bool false) rfl
 have o2 := hO.cell (i := 2) (v := .bool false) rfl
 have c0 := hG1.cell (i := 0) (v := .int .i64 g.fl) rfl
 have c1 := hG1.cell (i := 1) (v := .int .i64 g.tv) rfl
 have c2 := hG1.cell (i := 2) (v := .int .i64 g.lv) rfl
 have c3 := hG1.cell (i := 3) (v := .int .i64 g.op) rfl
 have c4 := hG1.cell (i := 4) (v := .int .i64 g.dw) rfl
 have c5 := hG1.cell (i := 5) (v := .int .i64 g.ld) rfl
 have c6 := hG1.cell (i := 6) (v := .int .i64 g.cl) rfl
 have c7 := hG1.cell (i := 7) (v := .int .i64 g.ho) rfl
 have c8 := hG1.cell (i := 8) (v := .int .i64 g.d) rfl
 have c9 := hG1.cell (i := 9) (v := .int .i64 g.m) rfl
 have x0 := hC1.cell (i := 0) (v := .int .i64 0) rfl
 have x1 := hC1.cell (i := 1) (v := .int .i64 0) rfl
 have x2 := hC1.cell (i := 2) (v := .int .i64 0) rfl
 have x3 := hC1.cell (i := 3) (v := .int .i64 0) rfl
 have x4 := hC1.cell (i := 4) (v := .int .i64 0) rfl
 have x5 := hC1.cell (i := 5) (v := .int .i64 0) rfl
 have x6 := hC1.cell (i := 6) (v := .int .i64 0) rfl
 have y1 := (hO.alloc (.cells #[.int .i64 0, .int .i64 0, .int .i64 0, .bool false] 89)).cell (i := 2) (v := .bool false) rfl
 have y2 := ((hO.alloc (.cells #[.int .i64 0, .int .i64 0, .int .i64 0, .bool false] 89)).alloc (.cells #[.int .i64 0, .int .i64 0, .int .i64 0, .int .i64 0, .int .i64 0, .int .i64 0, .int .i64 0, .int .i64 g.fl, .int .i64 g.tv, .int .i64 g.lv, .int .i64 g.op, .int .i64 g.dw, .int .i64 g.ld, .int .i64 g.cl, .int .i64 g.ho, .int .i64 g.d, .int .i64 g.m] 227)).cell (i := 0) (v := .int .i64 cmd) rfl
 have HW := Lib.hid (BlockIs.new (w1.alloc (.cells #[.int .i64 0, .int .i64 0, .int .i64 0, .bool false] 89)) (wkA 0 0 0 0 g) 227)
 have HX := Lib.hid ((BlockIs.new w1 #[.int .i64 0, .int .i64 0, .int .i64 0, .bool false] 89).alloc (.cells (wkA 0 0 0 0 g) 227))
 have hO2 := (hO.alloc (.cells #[.int .i64 0, .int .i64 0, .int .i64 0, .bool false] 89)).alloc (.cells (wkA 0 0 0 0 g) 227)
 have hR2 := (hR.alloc (.cells #[.int .i64 0, .int .i64 0, .int .i64 0, .bool false] 89)).alloc (.cells (wkA 0 0 0 0 g) 227)
 have hS2 := (hS.alloc (.cells #[.int .i64 0, .int .i64 0, .int .i64 0, .bool false] 89)).alloc (.cells (wkA 0 0 0 0 g) 227)
 have HB2 := (HB1.alloc HB1.size (.cells #[.int .i64 0, .int .i64 0, .int .i64 0, .bool false] 89)).alloc (by have := HB1.size; simp only [World.size_alloc]; omega) (.cells (wkA 0 0 0 0 g) 227)
 have hlt := hS.lt
 have HO := Lib.hid hO2
 have HR := Lib.hid hR2
 have HS := Lib.hid hS2
 have HB2 := Lib.hid HB2
 clear hG hC hO hR hS hG1 hC1 HB1 hO2 hR2 hS2
 go_wp2_with (go_at_call 116; refine (cwithin_yes _ _ _ _ (by omega) (by omega)).mono ?_; rintro e w' ⟨rfl, rfl⟩)
 have hw := HW.out
 simp only [World.size_alloc] at hw
 refine (wbegin_ok g _ cmd _ _ h hw hc).mono ?_; rintro e w3 ⟨rfl, hw3, hT3⟩
 have hw4 : ∃ dd pp ll : Int, BlockIs w3 (w1.heap.size + 1) (wkA 0 dd pp ll g) 227 ∧ ((dd = 0 ∧ pp = 0 ∧ ll = 0) ∨ (dd = 1 ∧ pp = 1 ∧ ll = g.tv)) := by
  rcases hc with e | e
  ·rw [if_neg (by omega)] at hw3; exact ⟨0, 0, 0, hw3, .inl ⟨rfl, rfl, rfl⟩⟩
  ·rw [if_pos e] at hw3; exact ⟨1, 1, g.tv, hw3, .inr ⟨rfl, rfl, rfl⟩⟩
 obtain ⟨dd, pp, ll, hw4, hdd⟩ := hw4
 clear hw3 hw y1 y2 c0 c1 c2 c3 c4 c5 c6 c7 c8 c9 d0 d1 d2 d3 d4 d5 d6 o0 o1 o2 x0 x1 x2 x3 x4 x5 x6
 have hX3 := hT3.at HX.out (by omega)
 have hO3 := hT3.at HO.out (by omega)
 have hR3 := hT3.at HR.out (by omega)
 have hS3 := hT3.at HS.out (by omega)
 have HB3 := Lib.hid (HB2.out.trans (hT3.below (B := w.heap.size) (by have := HB2.out.size; omega) (by intro k hk; omega)))
 have a1 := hw4.cell (i := 1) (v := .int .i64 dd) rfl
 have b0 := hX3.cell (i := 0) (v := .int .i64 0) rfl
 have b1 := hX3.free 0
 have hw5 := hw4.other (a := ⟨w1.heap.size, 0, none⟩) (by show w1.heap.size + 1 ≠ w1.heap.size; omega) (.int .i64 dd)
 have hX5 := hX3.set 0 (.int .i64 dd)
 have hO5 := hO3.other (a := ⟨w1.heap.size, 0, none⟩) (by show w.heap.size + 1 + 1 ≠ w1.heap.size; omega) (.int .i64 dd)
 have hR5 := hR3.other (a := ⟨w1.heap.size, 0, none⟩) (by show w.heap.size + 1 + 1 + 1 ≠ w1.heap.size; omega) (.int .i64 dd)
 have hS5 := hS3.other (a := ⟨w1.heap.size, 0, none⟩) (by show w.heap.size + 1 + 1 + 1 + 1 ≠ w1.heap.size; omega) (.int .i64 dd)
 have e1 := hO5.cell (i := 1) (v := .bool false) rfl
 have HW5 := Lib.hid hw5
 have HX5 := Lib.hid hX5
 have HR5 := Lib.hid hR5
 have HS5 := Lib.hid hS5
 have HB5 := Lib.hid (HB3.out.trans (((Turn.refl (fun k => k = w1.heap.size) w3).setCell rfl 0 (.int .i64 dd)).below (B := w.heap.size) (by have := HB3.out.size; omega) (by intro k hk; omega)))
 clear hw4 hX3 hO3 hR3 hS3 hT3 hw5 hX5 hO5 hR5 hS5 HX HO HR HS HB2 HB3 HW
 go_wp2_with fail
 refine (wtick_any g _ dd pp ll _ _ h HW5.out hdd).mono ?_; rintro e w6 ⟨rfl, ⟨f, d, p, l, hw6⟩, hT6⟩
 have hX6 := hT6.at HX5.out (by omega)
 have hR6 := hT6.at HR5.out (by omega)
 have hS6 := hT6.at HS5.out (by omega)
 have HB6 := Lib.hid (HB5.out.trans (hT6.below (B := w.heap.size) (by have := HB5.out.size; omega) (by intro k hk; omega)))
 clear a1 b0 b1 e1 HX5 HR5 HS5 HB5 HW5
 have b0 := hX6.cell (i := 3) (v := .bool false) rfl
 have b1 := hX6.free 3
 have hX7 := hX6.set 3 (.bool false)
 have hw7 := hw6.other (a := ⟨w1.heap.size, 3, none⟩) (by show w1.heap.size + 1 ≠ w1.heap.size; omega) (.bool false)
 have hR7 := hR6.other (a := ⟨w1.heap.size, 3, none⟩) (by show w.heap.size + 1 + 1 + 1 ≠ w1.heap.size; omega) (.bool false)
 have hS7 := hS6.other (a := ⟨w1.heap.size, 3, none⟩) (by show w.heap.size + 1 + 1 + 1 + 1 ≠ w1.heap.size; omega) (.bool false)
 have HB7 := Lib.hid (HB6.out.trans (((Turn.refl (fun k => k = w1.heap.size) w6).setCell rfl 3 (.bool false)).below (B := w.heap.size) (by have := HB6.out.size; omega) (by intro k hk; omega)))
 have u0 := hw7.cell (i := 0) (v := .int .i64 f) rfl
 have u1 := hw7.cell (i := 1) (v := .int .i64 d) rfl
 have u2 := hw7.cell (i := 2) (v := .int .i64 p) rfl
 have u3 := hw7.cell (i := 3) (v := .int .i64 l) rfl
 have u4 := hw7.cell (i := 4) (v := .int .i64 0) rfl
 have u5 := hw7.cell (i := 5) (v := .int .i64 0) rfl
 have u6 := hw7.cell (i := 6) (v := .int .i64 0) rfl
 have v0 := hX7.cell (i := 0) (v := .int .i64 dd) rfl
 have v1 := hX7.cell (i := 1) (v := .int .i64 0) rfl
 have v2 := hX7.cell (i := 2) (v := .int .i64 0) rfl
 have v3 := hX7.cell (i := 3) (v := .bool false) rfl
 have HW7 := Lib.hid hw7
 have HR7 := Lib.hid hR7
 have HS7 := Lib.hid hS7
 clear hX6 hw6 hR6 hS6 hT6 hw7 hR7 hS7 HB6
 go_wp2_with fail
 refine wp_region_held_drew (S := fun w' => BlockIs w' (w1.heap.size + 1) (wkA f d p l g) 227 ∧ BlockIs w' w1.heap.size (ouA dd) 89) (by kernel_rfl) ⟨HW7.out, hX7⟩ (fun hHeld => ?_)
 refine tkH 0 ?_
 try simp only [pt]
 refine tkH 1 ?_
 try simp only [pt]
 refine tkH 2 ?_
 try simp only [pt]
 refine tkH 3 ?_ (hy := by (intro w hSw; refine load_x 85 (.tmp 63) (caA f d p l).toList _ 0 _ Tryz.underlying85 rfl car_info ?_ ?_ w (block_sub hSw.1 0 7) <;> rfl))
 try simp only [pt]
 refine tkH 4 ?_ (hy := by (intro w hSw; refine load_x 89 (.tmp 10) (ouA dd).toList _ 0 _ Tryz.underlying89 rfl out_info ?_ ?_ w (block_sub hSw.2 0 4) <;> rfl))
 try simp only [pt]
 refine rdy [5] ?_
 refine' arC rfl (fun KK hKK => ?a5) AllReadyH.nil
 refine wp_store_row 85 (.tmp 6) (.tmp 64) rfl (w.heap.size + 1 + 1 + 1) (caA f d p l) rfl rfl 85 _ HR7.out car_info rfl (by simp [caA, Value.oneCell']) ?_
 refine hKK.out _ _ (⟨HW7.out.rowOther (by omega) _, hX7.rowOther (by omega) _⟩) (fun _ => ?_)
 clear hKK KK
 try simp only [pt]
 refine rdy [6] ?_
 refine' arC rfl (fun KK hKK => ?a6) AllReadyH.nil
 refine wp_store_row 89 (.tmp 7) (.tmp 65) rfl (w.heap.size + 1 + 1 + 1 + 1) (ouA dd) rfl rfl 89 _ (HS7.out.rowOther (by omega) _) out_info rfl (by simp [ouA, Value.oneCell']) ?_
 refine hKK.out _ _ (⟨(HW7.out.rowOther (by omega) _).rowOther (by omega) _, (hX7.rowOther (by omega) _).rowOther (by omega) _⟩) (fun _ => ?_)
 clear hKK KK
 try simp only [pt]
 refine rdy [7] ?_
 refine' arC rfl (fun KK hKK => ?a7) AllReadyH.nil
 go_simp
 refine' hKK.out _ _ ?ah7 (fun _ => ?ar7)
 case ah7 => assumption
 clear hKK KK
 try simp only [pt]
 refine wpAnyH_done (by kernel_rfl) ?_ _
 have hR8 := (HR7.out.row (caA f d p l)).rowOther (b' := w.heap.size + 1 + 1 + 1 + 1) (by omega) (ouA dd)
 have hS8 := (HS7.out.rowOther (b' := w.heap.size + 1 + 1 + 1) (by omega) (caA f d p l)).row (ouA dd)
 have HB8 := below_setRow (below_setRow HB7.out.drew (by omega : w.heap.size ≤ w.heap.size + 1 + 1 + 1) (caA f d p l)) (by omega : w.heap.size ≤ w.heap.size + 1 + 1 + 1 + 1) (ouA dd)
 have HR8 := Lib.hid hR8
 have HS8 := Lib.hid hS8
 have HB9 := Lib.hid HB8
 clear hR8 hS8 HB8 hHeld
 go_wp2_with fail
 refine bodyPost_ret (res_cct (b := w.heap.size + 1 + 1 + 1) (c := w.heap.size + 1 + 1 + 1 + 1) rfl _ _ _ _ _ _ _ _ rfl HR8.out Tryz.underlying85 rfl car_info rfl HS8.out Tryz.underlying89 rfl out_info) rfl ⟨f, d, p, l, dd, rfl, HB9.out⟩
end Go.Proofs.YtfnifgppblbjhaaGreatDoor
