/- Part of the proof of TopHoly. -/
import Derived.Test.YtfnifgppblbjhaaGreatDoorY20
import Derived.Deep.RegionHeld3
namespace Go.Proofs.YtfnifgppblbjhaaGreatDoor
set_option maxHeartbeats 8000000
open Go Go.RowKit
set_option linter.unusedVariables false
set_option linter.unusedSimpArgs false
def PlanP (c : Cfg) (nth : Int) (w : World) (e : Ending) (w' : World) : Prop :=
 ∃ (v : Value) (st : List Int), e = .returned (.agg (plA v c.ca nth)) ∧ StopsOk c.fl st ∧ w'.ownsRow w.heap.size 3 1 v st.length (st.map (.int .i64)) ∧ Below w.heap.size w w'
theorem range_stops {fl : Int} (h : 2 ≤ fl) : StopsOk fl ((List.range fl.toNat).map fun k : Nat => (k : Int)) := by
 refine ⟨by simp; omega, fun x hx => ?_, ?_⟩
 ·obtain ⟨k, hk, rfl⟩ := List.mem_map.1 hx
  have := List.mem_range.1 hk
  omega
 ·rw [List.pairwise_map]
  exact List.pairwise_lt_range.imp (fun h => by omega)
set_option maxRecDepth 100000 in
theorem aplan_one (c : Cfg) (vs vw : Value) (nth : Int) (w : World) (h : CfgOk c) (hm : CfgM w c vs vw) :
  Calls Tryz.prog 172 #[.agg (cfgA c vs vw), .int .i64 1, .int .i64 nth] w (PlanP c nth w) := by
 obtain ⟨i0, hi0, hz0, hz1, hz2⟩ := info_hid int_info0
 have hl := stops_len h.st h.fl2
 have hs2 := h.st.1
 obtain ⟨bs, os, cs, rfl, hcs, hrs⟩ := hm.s.some (by omega)
 have hC := (BlockIs.new w (cfgA c (.slice (some ⟨bs, os, none⟩) c.st.length cs) vw) 33).alloc (.cells #[.slice none 0 0, .int .i64 0, .int .i64 0] 209)
 have hR := BlockIs.new (w.alloc (.cells (cfgA c (.slice (some ⟨bs, os, none⟩) c.st.length cs) vw) 33)) #[.slice none 0 0, .int .i64 0, .int .i64 0] 209
 simp only [World.size_alloc] at hR
 have HB := (((Below.refl w.heap.size w).alloc (by exact Nat.le_refl _) (.cells (cfgA c (.slice (some ⟨bs, os, none⟩) c.st.length cs) vw) 33)).alloc (by simp only [World.size_alloc]; omega) (.cells #[.slice none 0 0, .int .i64 0, .int .i64 0] 209))
 have hst := h.st
 have c1 := hC.cell (i := 1) (v := .int .i64 c.ca) rfl
 have hC2 := hC.alloc (.cells #[.slice none 0 0, .int .i64 c.ca, .int .i64 nth] 209)
 have hR2 := hR.alloc (.cells #[.slice none 0 0, .int .i64 c.ca, .int .i64 nth] 209)
 have hP2 := BlockIs.new ((w.alloc (.cells (cfgA c (.slice (some ⟨bs, os, none⟩) c.st.length cs) vw) 33)).alloc (.cells #[.slice none 0 0, .int .i64 0, .int .i64 0] 209)) #[.slice none 0 0, .int .i64 c.ca, .int .i64 nth] 209
 simp only [World.size_alloc] at hP2
 have HB2 := HB.alloc (by simp only [World.size_alloc]; omega) (.cells #[.slice none 0 0, .int .i64 c.ca, .int .i64 nth] 209)
 have hr2 := range_keep hrs HB2
 have hlm : (c.st.map (Value.int .i64)).length = c.st.length * 1 := by simp
 have hone := int_one .i64 c.st
 clear hm hrs h hC hR HB
 generalize hn : c.st.length = n at *
 obtain ⟨W, hW⟩ : ∃ W, ((w.alloc (.cells (cfgA c (.slice (some ⟨bs, os, none⟩) n cs) vw) 33)).alloc (.cells #[.slice none 0 0, .int .i64 0, .int .i64 0] 209)).alloc (.cells #[.slice none 0 0, .int .i64 c.ca, .int .i64 nth] 209) = W := ⟨_, rfl⟩
 have hsz : W.heap.size = w.heap.size + 1 + 1 + 1 := by rw [← hW]; simp
 rw [hW] at hC2 hR2 hP2 HB2 hr2
 have hown := World.ownsRow_nil W (w.heap.size + 1 + 1 + 1) 3 1
 have HN := Lib.hid (show ∀ j u, (c.st.map (Value.int .i64))[j]? = some u → W.cell? ((⟨bs, os, none⟩ : Addr).add j) = some u from fun j u hu => by rw [Addr.add_mid]; exact hr2 j u hu)
 have x3 := hC2.cell (i := 3) (v := .slice (some ⟨bs, os, none⟩) n cs) rfl
 have y0 := hP2.cell (i := 0) (v := .slice none 0 0) rfl
 have HW := Lib.hid hW
 have HC := Lib.hid hC2
 have HR := Lib.hid hR2
 have HP := Lib.hid hP2
 have HO := Lib.hid hown
 have HB3 := Lib.hid HB2
 clear hW hC2 hR2 hP2 HB2 hr2 hown
 go_enter Tryz.func172, Tryz.ntmps172
 go_upto_region 2 with fail
 rw [HW.out]
 clear c1
 go_upto_region 12 with (first | (at_builtin; refine wpList_append_lies _ rfl (.tmp 18) (.tmp 20) 22 rfl (w.heap.size + 1 + 1 + 1) 3 i0 (.int .i64 0) 1 8 Tryz.underlying22 (hi0 ()) hz0 hz1 hz2 rfl (by decide) _ 0 _ rfl HO.out ⟨bs, os, none⟩ n cs (c.st.map (.int .i64)) rfl hlm HN.out hone (by omega) (by unfold maxLen; omega) (by omega) (by rw [hsz]; omega) _ rfl ?_; intro g cap w1 h2 h3 h4 h5; have hP3 := HP.out.grownNot h3 (fun e => by have := (HO.out.lt _ e.symm).1; omega); have z0 := hP3.cell (i := 0) (v := .slice none 0 0) rfl; have z1 := hP3.free 0))
 have hP4 := (HP.out.grownNot h3 (fun e => by have := (HO.out.lt _ e.symm).1; omega)).set 0 (.slice (some ⟨g, 0, none⟩) n cap)
 have hR4 := (HR.out.grownNot h3 (fun e => by have := (HO.out.lt _ e.symm).1; omega)).other (a := ⟨w.heap.size + 1 + 1, 0, none⟩) (by show w.heap.size + 1 ≠ w.heap.size + 1 + 1; omega) (.slice (some ⟨g, 0, none⟩) n cap)
 have hT := (Turn.refl (fun k => k = w.heap.size + 1 + 1) w1).setCell rfl 0 (.slice (some ⟨g, 0, none⟩) n cap)
 have hO4 := hT.own h2 (fun k hk => by have := (h2.lt _ hk).1; omega)
 have hB1 := HB3.out.grown h3 (by rw [hsz]; omega) (fun k e => by have := (HO.out.lt _ e).1; omega)
 have hB4 := hB1.trans (hT.below (B := w.heap.size) (by have := hB1.size; omega) (by intro k hk; omega))
 have hB5 := below_setRow hB4 (by omega : w.heap.size ≤ w.heap.size + 1) (plA (.slice (some ⟨g, 0, none⟩) n cap) c.ca nth)
 have hR5 := hR4.row (plA (.slice (some ⟨g, 0, none⟩) n cap) c.ca nth)
 have hO5 := ((Turn.refl (fun k => k = w.heap.size + 1) _).setRow rfl (plA (.slice (some ⟨g, 0, none⟩) n cap) c.ca nth)).own hO4 (fun k hk => by have := (hO4.lt _ hk).1; omega)
 have hl0 := block_sub hP4 0 3
 have HL0 := Lib.hid hl0
 have HR4 := Lib.hid hR4
 have HR5 := Lib.hid hR5
 have HO5 := Lib.hid (hO5.mono (base' := w.heap.size) (by omega))
 have HB5 := Lib.hid hB5
 clear hP4 hR4 hT hO4 hB1 hB4 hB5 hR5 hO5 hl0 h2 h3 h4 h5 HP HR HC HO HB3 HN hP3 z0 z1 x3 y0 HW
 go_wp2_with (first
  | ((with_reducible show wpList _ _ _ _ _ _); refine wl_any 209 (.tmp 7) [.slice (some ⟨g, 0, none⟩) n cap, .int .i64 c.ca, .int .i64 nth] (w.heap.size + 1 + 1) 0 _ Tryz.underlying209 rfl plan_info ?_ ?_ ?_ HL0.out ?_; rfl; rfl; rfl)
  | ((with_reducible show wpList _ _ _ _ _ _); refine ws_any 209 (.tmp 6) (.tmp 37) (plA (.slice (some ⟨g, 0, none⟩) n cap) c.ca nth) (w.heap.size + 1) _ 209 ?_ ?_ ?_ ?_ HR4.out plan_info rfl (by simp [plA, Value.oneCell']) ?_; rfl; rfl; rfl; rfl))
 have ho := HO5.out
 rw [Nat.zero_add, List.nil_append, ← hn] at ho
 refine bodyPost_ret (res_row rfl _ _ (w.heap.size + 1) 209 (plA (.slice (some ⟨g, 0, none⟩) n cap) c.ca nth) _ rfl HR5.out Tryz.underlying209 rfl plan_info) rfl ⟨_, c.st, rfl, hst, by rw [← hn]; exact ho, HB5.out⟩
def ck0 : Array Value := #[.bool false, .bool false, .int .i64 0, .int .i64 0]
theorem clock_info : (Tryz.prog.info? 76).map (·.size) = some 4 := by kernel_rfl
theorem xwithin_yes (n a b : Int) (w : World) (h0 : I64 n) (h : a ≤ n) (h' : n - a ≤ b) (ha : 0 ≤ a) : Calls Tryz.prog 93 #[.int .i64 n, .int .i64 a, .int .i64 b] w fun e w' => e = .returned (.bool true) ∧ w = w' := by
 have e1 : IntKind.i64.wrap (n - a) = n - a := IntWalk.i64_in _ ⟨by have := h0.1; omega, by have := h0.2; omega⟩
 clear h0
 go_enter Tryz.func93, Tryz.ntmps93
 go_wp2
 all_goals first
  | (exfalso; omega)
  | (go_ret; refine ⟨boolE ?_, rfl⟩; simp [*])
theorem xcheck_ok (w : World) : Calls Tryz.prog 92 #[.agg ck0] w fun e w' => e = .returned (.int .i64 0) ∧ Below w.heap.size w w' := by
 have hC := BlockIs.new w ck0 76
 have HB := ((Below.refl w.heap.size w).alloc (by exact Nat.le_refl _) (.cells ck0 76))
 have hC1 := hC.alloc (.cells #[.bool false, .bool false, .int .i64 0, .int .i64 0] 76)
 have hK1 := BlockIs.new (w.alloc (.cells ck0 76)) #[.bool false, .bool false, .int .i64 0, .int .i64 0] 76
 rw [World.size_alloc] at hK1
 have HB1 := HB.alloc (by simp) (.cells #[.bool false, .bool false, .int .i64 0, .int .i64 0] 76)
 have hK2 := hK1.set 2 (.int .i64 0)
 have hC2 := hC1.other (a := ⟨w.heap.size + 1, 2, none⟩) (by show w.heap.size ≠ w.heap.size + 1; omega) (.int .i64 0)
 have hK3 := hK2.set 3 (.int .i64 0)
 have hC3 := hC2.other (a := ⟨w.heap.size + 1, 3, none⟩) (by show w.heap.size ≠ w.heap.size + 1; omega) (.int .i64 0)
 have a0 := hC.cell (i := 0) (v := .bool false) rfl
 have a1 := hC.cell (i := 1) (v := .bool false) rfl
 have a2 := hC.cell (i := 2) (v := .int .i64 0) rfl
 have a3 := hC.cell (i := 3) (v := .int .i64 0) rfl
 have b0 := hC1.cell (i := 0) (v := .bool false) rfl
 have b1 := hC1.cell (i := 1) (v := .bool false) rfl
 have b2 := hC1.cell (i := 2) (v := .int .i64 0) rfl
 have b3 := hC1.cell (i := 3) (v := .int .i64 0) rfl
 have c0 := hC2.cell (i := 0) (v := .bool false) rfl
 have c1 := hC2.cell (i := 1) (v := .bool false) rfl
 have c2 := hC2.cell (i := 2) (v := .int .i64 0) rfl
 have c3 := hC2.cell (i := 3) (v := .int .i64 0) rfl
 have d0 := hC3.cell (i := 0) (v := .bool false) rfl
 have d1 := hC3.cell (i := 1) (v := .bool false) rfl
 have d2 := hC3.cell (i := 2) (v := .int .i64 0) rfl
 have d3 := hC3.cell (i := 3) (v := .int .i64 0) rfl
 have e0 := hK1.cell (i := 0) (v := .bool false) rfl
 have e1 := hK1.cell (i := 1) (v := .bool false) rfl
 have e2 := hK1.cell (i := 2) (v := .int .i64 0) rfl
 have e3 := hK1.cell (i := 3) (v := .int .i64 0) rfl
 have f0 := hK2.cell (i := 0) (v := .bool false) rfl
 have f1 := hK2.cell (i := 1) (v := .bool false) rfl
 have f2 := hK2.cell (i := 2) (v := .int .i64 0) rfl
 have f3 := hK2.cell (i := 3) (v := .int .i64 0) rfl
 have g0 := hK3.cell (i := 0) (v := .bool false) rfl
 have g1 := hK3.cell (i := 1) (v := .bool false) rfl
 have g2 := hK3.cell (i := 2) (v := .int .i64 0) rfl
 have g3 := hK3.cell (i := 3) (v := .int .i64 0) rfl
 have z2 := hK1.free 2
 have z3 := hK2.free 3
 clear hC hC1 hK1 hK2 hC2 hK3 hC3
 go_enter Tryz.func92, Tryz.ntmps92
 go_wp2_with (go_at_call 93; refine (xwithin_yes _ _ _ _ ⟨by omega, by omega⟩ (by omega) (by omega) (by omega)).mono ?_; rintro e w' ⟨rfl, rfl⟩)
 clear a0 a1 a2 a3 b0 b1 b2 b3 c0 c1 c2 c3 d0 d1 d2 d3 e0 e1 e2 e3 f0 f1 f2 f3 g0 g1 g2 g3
 go_ret
 exact ⟨rfl, HB1⟩
theorem results_ctt {fn : Func} {p u v : Tmp} {ty : TypeId} (h : fn.results = #[.cell p ty, .tmp u, .tmp v]) (tmps : Array Value) (P : Program) (w : World) :
  (results fn tmps).run P w = ((asAddr (tmps.getD p undef)).run P w).andThen fun a w₁ => ((loadVar ty a).run P w₁).andThen fun x w₂ => .ok (.tuple #[x, tmps.getD u undef, tmps.getD v undef]) w₂ := by
 simp only [results, h]
 simp [Sem.run_bind, Result.andThen]
theorem res_ctt {fn : Func} {p u v : Tmp} {ty : TypeId} (h : fn.results = #[.cell p ty, .tmp u, .tmp v]) (tmps : Array Value) {P : Program} (w : World) (b : Nat) (t : TypeId) (cs : Array Value) (d : TypeDesc)
  (hp : tmps.getD p undef = .pointer (some ⟨b, 0, none⟩)) (hc : BlockIs w b cs t) (hu : P.underlying ty = some d) (hd : d.isRow = true) (hi : (P.info? ty).map (·.size) = some cs.size) :
  (results fn tmps).run P w = .ok (.tuple #[.agg cs, tmps.getD u undef, tmps.getD v undef]) w := by
 have hl := run_loadVar_mid (P := P) w b 0 ty cs.toList d (fun j v hv => by rw [Nat.zero_add]; exact hc.cell (by simpa using hv)) hu hd (by simpa using hi)
 rw [results_ctt h, hp]
 simp only [asAddr, Sem.run_pure, Result.andThen_ok, hl]
def ckA (r : Int) : Array Value := #[.bool true, .bool false, .int .i64 r, .int .i64 0]
theorem xRead_ok (r : Int) (w : World) (h0 : 0 ≤ r) (h1 : r ≤ 5258879999) : Calls Tryz.prog 48 #[.agg ck0, .int .i64 r] w fun e w' => e = .returned (.tuple #[.agg (ckA r), .bool true, .int .i64 0]) ∧ Below w.heap.size w w' := by
 have hC := (BlockIs.new w ck0 76).alloc (.cells #[.bool false, .bool false, .int .i64 0, .int .i64 0] 76)
 have hR := BlockIs.new (w.alloc (.cells ck0 76)) #[.bool false, .bool false, .int .i64 0, .int .i64 0] 76
 simp only [World.size_alloc] at hR
 have HB := (((Below.refl w.heap.size w).alloc (by exact Nat.le_refl _) (.cells ck0 76)).alloc (by simp only [World.size_alloc]; omega) (.cells #[.bool false, .bool false, .int .i64 0, .int .i64 0] 76))
 have a0 := hC.cell (i := 0) (v := .bool false) rfl
 have a1 := hC.cell (i := 1) (v := .bool false) rfl
 have a2 := hC.cell (i := 2) (v := .int .i64 0) rfl
 have a3 := hC.cell (i := 3) (v := .int .i64 0) rfl
 have HC := Lib.hid hC
 have HR := Lib.hid hR
 clear hC hR
 go_enter Tryz.func48, Tryz.ntmps48
 go_wp2_with fail
 refine (xcheck_ok _).mono ?_; rintro e w1 ⟨rfl, hb1⟩
 have hC1 := HC.out.kept hb1
 have hR1 := HR.out.kept hb1
 have HB1 := HB.trans (hb1.mono HB.size)
 clear a0 a1 a2 a3 hb1 HB HC HR
 have a0 := hC1.cell (i := 0) (v := .bool false) rfl
 have HR1 := Lib.hid hR1
 have HR2 := Lib.hid (hR1.row (ckA r))
 have HB2 := Lib.hid (below_setRow HB1 (by omega : w.heap.size ≤ w.heap.size + 1) (ckA r))
 clear hC1 hR1 HB1
 go_wp2_with (first
  | (go_at_call 93; refine (xwithin_yes _ _ _ _ ⟨by omega, by omega⟩ (by omega) (by omega) (by omega)).mono ?_; rintro e w' ⟨rfl, rfl⟩)
  | ((with_reducible show wpList _ _ _ _ _ _); refine ws_any 76 (.tmp 4) (.tmp 36) (ckA r) (w.heap.size + 1) _ 76 ?_ ?_ ?_ ?_ HR1.out clock_info rfl (by simp [ckA, Value.oneCell']) ?_; rfl; rfl; rfl; rfl))
 refine bodyPost_ret (v := .tuple #[.agg (ckA r), .bool true, .int .i64 0]) ?_ rfl ⟨rfl, HB2.out⟩
 refine res_ctt (p := 4) (u := 5) (v := 6) ?_ _ _ (w.heap.size + 1) 76 (ckA r) _ ?_ HR2.out Tryz.underlying76 rfl clock_info
 all_goals rfl
theorem lwithin_yes (n a b : Int) (w : World) (h : a ≤ n) (h' : n ≤ b) : Calls Tryz.prog 152 #[.int .i64 n, .int .i64 a, .int .i64 b] w fun e w' => e = .returned (.bool true) ∧ w = w' := by
 go_enter Tryz.func152, Tryz.ntmps152
 go_wp2
 all_goals first
  | (exfalso; omega)
  | (go_ret; refine ⟨boolE ?_, rfl⟩; simp [*])
theorem halls_info : (Tryz.prog.info? 196).map (·.size) = some 2 := by kernel_rfl
theorem lhalls_ok (p q : Option Addr) (c d : Nat) (w : World) : Calls Tryz.prog 100 #[.agg #[.slice p 0 c, .slice q 0 d]] w fun e w' => e = .returned (.agg #[.slice p 0 c, .func (.func 153) #[] #[]]) ∧ Below w.heap.size w w' := by
 have hC := BlockIs.new w #[.slice p 0 c, .slice q 0 d] 47
 have HB := ((Below.refl w.heap.size w).alloc (by exact Nat.le_refl _) (.cells #[.slice p 0 c, .slice q 0 d] 47))
 have c0 := hC.cell (i := 0) (v := .slice p 0 c) rfl
 have c1 := hC.cell (i := 1) (v := .slice q 0 d) rfl
 clear hC
 go_enter Tryz.func100, Tryz.ntmps100
 go_wp2_with fail
 have HB1 := HB.alloc (by simp) (.cells #[.slice p 0 c, .func (.func 153) #[] #[]] 196)
 have hB := BlockIs.new (w.alloc (.cells #[.slice p 0 c, .slice q 0 d] 47)) #[.slice p 0 c, .func (.func 153) #[] #[]] 196
 rw [World.size_alloc] at hB
 exact bodyPost_ret (res_row rfl _ _ (w.heap.size + 1) 196 _ _ rfl hB Tryz.underlying196 rfl halls_info) rfl ⟨rfl, HB1⟩
theorem lright1_ok (p : Option Addr) (c : Nat) (f may : Value) (w : World) : Calls Tryz.prog 206 #[.agg #[.slice p 0 c, f], may] w fun e w' => e = .returned (.bool true) ∧ Below w.heap.size w w' := by
 have hC := BlockIs.new w #[.slice p 0 c, f] 196
 have HB := ((Below.refl w.heap.size w).alloc (by exact Nat.le_refl _) (.cells #[.slice p 0 c, f] 196))
 have c0 := hC.cell (i := 0) (v := .slice p 0 c) rfl
 have c1 := hC.cell (i := 1) (v := f) rfl
 clear hC
 obtain ⟨W, hW⟩ : ∃ W, w.alloc (.cells #[.slice p 0 c, f] 196) = W := ⟨_, rfl⟩
 rw [hW] at HB c0 c1
 have HW := Lib.hid hW
 clear hW
 go_enter Tryz.func206, Tryz.ntmps206
 go_wp2_with fail
 rw [HW.out]
 go_loopw [10] (fun iv wr => iv = .int .i64 0 ∧ W = wr) (fun _ _ => 0)
 case atStart => exact ⟨rfl, rfl⟩
 case round =>
  obtain ⟨rfl, rfl⟩ := hrel
  go_wp2_with fail
  go_ret
  exact ⟨rfl, HB⟩
theorem ins_info : (Tryz.prog.info? 201).map (·.size) = some 2 := by kernel_rfl
theorem lins_ok (p q : Option Addr) (c d : Nat) (w : World) : Calls Tryz.prog 102 #[.agg #[.slice p 0 c, .slice q 0 d]] w fun e w' => e = .returned (.agg #[.slice q 0 d, .func (.func 158) #[] #[]]) ∧ Below w.heap.size w w' := by
 have hC := BlockIs.new w #[.slice p 0 c, .slice q 0 d] 47
 have HB := ((Below.refl w.heap.size w).alloc (by exact Nat.le_refl _) (.cells #[.slice p 0 c, .slice q 0 d] 47))
 have c0 := hC.cell (i := 0) (v := .slice p 0 c) rfl
 have c1 := hC.cell (i := 1) (v := .slice q 0 d) rfl
 clear hC
 go_enter Tryz.func102, Tryz.ntmps102
 go_wp2_with fail
 have HB1 := HB.alloc (by simp) (.cells #[.slice q 0 d, .func (.func 158) #[] #[]] 201)
 have hB := BlockIs.new (w.alloc (.cells #[.slice p 0 c, .slice q 0 d] 47)) #[.slice q 0 d, .func (.func 158) #[] #[]] 201
 rw [World.size_alloc] at hB
 exact bodyPost_ret (res_row rfl _ _ (w.heap.size + 1) 201 _ _ rfl hB Tryz.underlying201 rfl ins_info) rfl ⟨rfl, HB1⟩
theorem lright2_ok (p : Option Addr) (c : Nat) (f may : Value) (w : World) : Calls Tryz.prog 207 #[.agg #[.slice p 0 c, f], may] w fun e w' => e = .returned (.bool true) ∧ Below w.heap.size w w' := by
 have hC := BlockIs.new w #[.slice p 0 c, f] 201
 have HB := ((Below.refl w.heap.size w).alloc (by exact Nat.le_refl _) (.cells #[.slice p 0 c, f] 201))
 have c0 := hC.cell (i := 0) (v := .slice p 0 c) rfl
 have c1 := hC.cell (i := 1) (v := f) rfl
 clear hC
 obtain ⟨W, hW⟩ : ∃ W, w.alloc (.cells #[.slice p 0 c, f] 201) = W := ⟨_, rfl⟩
 rw [hW] at HB c0 c1
 have HW := Lib.hid hW
 clear hW
 go_enter Tryz.func207, Tryz.ntmps207
 go_wp2_with fail
 rw [HW.out]
 go_loopw [10] (fun iv wr => iv = .int .i64 0 ∧ W = wr) (fun _ _ => 0)
 case atStart => exact ⟨rfl, rfl⟩
 case round =>
  obtain ⟨rfl, rfl⟩ := hrel
  go_wp2_with fail
  go_ret
  exact ⟨rfl, HB⟩
theorem lhall_ok (a b : Int) (w : World) : Calls Tryz.prog 104 #[.agg #[.int .i64 a, .int .i64 b]] w fun e w' => e = .returned (.func (.func 161) #[] #[.pointer (some ⟨w.heap.size, 0, none⟩)]) ∧ Below w.heap.size w w' := by
 go_enter Tryz.func104, Tryz.ntmps104
 go_wp2_with fail
 go_ret
 exact ⟨rfl, (Below.refl _ _).alloc (Nat.le_refl _) _⟩
theorem linside_ok (a b : Int) (w : World) : Calls Tryz.prog 99 #[.agg #[.int .i64 a, .int .i64 b]] w fun e w' => e = .returned (.func (.func 151) #[] #[.pointer (some ⟨w.heap.size, 0, none⟩)]) ∧ Below w.heap.size w w' := by
 go_enter Tryz.func99, Tryz.ntmps99
 go_wp2_with fail
 go_ret
 exact ⟨rfl, (Below.refl _ _).alloc (Nat.le_refl _) _⟩
theorem lCheck_ok (a b : Int) (p q : Option Addr) (c d : Nat) (w : World) (a1 : 2 ≤ a) (a2 : a ≤ 64) (b1 : 1 ≤ b) (b2 : b ≤ 8) :
  Calls Tryz.prog 150 #[.agg #[.int .i64 a, .int .i64 b], .agg #[.slice p 0 c, .slice q 0 d]] w fun e w' => e = .returned (.int .i64 0) ∧ Below w.heap.size w w' := by
 have hH := (BlockIs.new w #[.int .i64 a, .int .i64 b] 130).alloc (.cells #[.slice p 0 c, .slice q 0 d] 47)
 have hC := BlockIs.new (w.alloc (.cells #[.int .i64 a, .int .i64 b] 130)) #[.slice p 0 c, .slice q 0 d] 47
 simp only [World.size_alloc] at hC
 have HB := (((Below.refl w.heap.size w).alloc (by exact Nat.le_refl _) (.cells #[.int .i64 a, .int .i64 b] 130)).alloc (by simp only [World.size_alloc]; omega) (.cells #[.slice p 0 c, .slice q 0 d] 47))
 obtain ⟨W, hW⟩ : ∃ W, (w.alloc (.cells #[.int .i64 a, .int .i64 b] 130)).alloc (.cells #[.slice p 0 c, .slice q 0 d] 47) = W := ⟨_, rfl⟩
 rw [hW] at hH hC HB
 have hlt := hC.lt
 have HS := Lib.hid (show ∀ W', Below W.heap.size W W' → W'.cell? ⟨w.heap.size, 0, none⟩ = some (.int .i64 a) ∧ W'.cell? ⟨w.heap.size, 1, none⟩ = some (.int .i64 b) ∧ W'.cell? ⟨w.heap.size + 1, 0, none⟩ = some (.slice p 0 c) ∧ W'.cell? ⟨w.heap.size + 1, 1, none⟩ = some (.slice q 0 d) ∧ Below W.heap.size W W' from fun W' h => ⟨(hH.kept h).cell rfl, (hH.kept h).cell rfl, (hC.kept h).cell rfl, (hC.kept h).cell rfl, h⟩)
 have HW := Lib.hid hW
 have hd := (Below.refl W.heap.size W).drew
 clear hW hH hC
 go_enter Tryz.func150, Tryz.ntmps150
 go_wp2_with fail
 rw [HW.out]
 go_region_held3 (fun w' => w'.cell? ⟨w.heap.size, 0, none⟩ = some (.int .i64 a) ∧ w'.cell? ⟨w.heap.size, 1, none⟩ = some (.int .i64 b) ∧ w'.cell? ⟨w.heap.size + 1, 0, none⟩ = some (.slice p 0 c) ∧ w'.cell? ⟨w.heap.size + 1, 1, none⟩ = some (.slice q 0 d) ∧ Below W.heap.size W w')
  (first
   | (exact HS.out _ hd)
   | assumption
   | (exact HS.out _ hX6)
   | (exact HS.out _ hX5)
   | (exact HS.out _ hX4)
   | (exact HS.out _ hX3)
   | (exact HS.out _ hX2)
   | (exact HS.out _ hX1)
   | go_keep)
  (first
   | (go_at_call 152; refine (lwithin_yes _ _ _ _ (by omega) (by omega)).mono ?_; rintro e w' ⟨rfl, rfl⟩)
   | (go_at_call 100; refine (lhalls_ok p q c d _).mono ?_; rintro e v1 ⟨rfl, hb1⟩; have hX1 := hd.trans (hb1.mono hd.size))
   | (go_at_call 104; refine (lhall_ok a b _).mono ?_; rintro e v2 ⟨rfl, hb2⟩; have hX2 := hX1.trans (hb2.mono hX1.size))
   | (go_at_call 206; refine (lright1_ok p c _ _ _).mono ?_; rintro e v3 ⟨rfl, hb3⟩; have hX3 := hX2.trans (hb3.mono hX2.size))
   | (go_at_call 102; refine (lins_ok p q c d _).mono ?_; rintro e v4 ⟨rfl, hb4⟩; have hX4 := hX3.trans (hb4.mono hX3.size))
   | (go_at_call 99; refine (linside_ok a b _).mono ?_; rintro e v5 ⟨rfl, hb5⟩; have hX5 := hX4.trans (hb5.mono hX4.size))
   | (go_at_call 207; refine (lright2_ok q d _ _ _).mono ?_; rintro e v6 ⟨rfl, hb6⟩; have hX6 := hX5.trans (hb6.mono hX5.size)))
 have HB6 := Lib.hid (HB.trans (hX6.mono HB.size))
 clear hX1 hX2 hX3 hX4 hX5 hX6 hb1 hb2 hb3 hb4 hb5 hb6 hd HB HS
 go_wp2_with fail
 go_ret
 exact ⟨rfl, HB6.out⟩
theorem view_info : (Tryz.prog.info? 215).map (·.size) = some 3 := by kernel_rfl
theorem calls_info : (Tryz.prog.info? 47).map (·.size) = some 2 := by kernel_rfl
def vw0 : Array Value := #[.slice none 0 0, .slice none 0 0, .slice none 0 0]
set_option maxRecDepth 100000 in
theorem lView_ok (a b i : Int) (p q : Option Addr) (c d : Nat) (w : World) (a1 : 2 ≤ a) (a2 : a ≤ 64) (b1 : 1 ≤ b) (b2 : b ≤ 8) (i1 : 0 ≤ i) (i2 : i < b) :
  Calls Tryz.prog 112 #[.agg #[.int .i64 a, .int .i64 b], .agg #[.slice p 0 c, .slice q 0 d], .int .i64 i] w fun e w' => e = .returned (.tuple #[.agg vw0, .int .i64 0]) ∧ Below w.heap.size w w' := by
 have hH := ((BlockIs.new w #[.int .i64 a, .int .i64 b] 130).alloc (.cells #[.slice p 0 c, .slice q 0 d] 47)).alloc (.cells #[.slice none 0 0, .slice none 0 0, .slice none 0 0] 215)
 have hC := (BlockIs.new (w.alloc (.cells #[.int .i64 a, .int .i64 b] 130)) #[.slice p 0 c, .slice q 0 d] 47).alloc (.cells #[.slice none 0 0, .slice none 0 0, .slice none 0 0] 215)
 simp only [World.size_alloc] at hC
 have hR := BlockIs.new ((w.alloc (.cells #[.int .i64 a, .int .i64 b] 130)).alloc (.cells #[.slice p 0 c, .slice q 0 d] 47)) #[.slice none 0 0, .slice none 0 0, .slice none 0 0] 215
 simp only [World.size_alloc] at hR
 have HB := ((((Below.refl w.heap.size w).alloc (by exact Nat.le_refl _) (.cells #[.int .i64 a, .int .i64 b] 130)).alloc (by simp only [World.size_alloc]; omega) (.cells #[.slice p 0 c, .slice q 0 d] 47)).alloc (by simp only [World.size_alloc]; omega) (.cells #[.slice none 0 0, .slice none 0 0, .slice none 0 0] 215))
 have h0 := hH.cell (i := 0) (v := .int .i64 a) rfl
 have h1 := hH.cell (i := 1) (v := .int .i64 b) rfl
 have c0 := hC.cell (i := 0) (v := .slice p 0 c) rfl
 have c1 := hC.cell (i := 1) (v := .slice q 0 d) rfl
 have HH := Lib.hid hH
 have HC := Lib.hid hC
 have HR := Lib.hid hR
 clear hH hC hR
 go_enter Tryz.func112, Tryz.ntmps112
 go_wp2_with fail
 refine (lCheck_ok a b p q c d _ a1 a2 b1 b2).mono ?_; rintro e w1 ⟨rfl, hb1⟩
 have hH := HH.out.kept hb1
 have hC := (HC.out.kept hb1).alloc (.cells #[.slice none 0 0, .slice none 0 0, .slice none 0 0] 215)
 have hR := (HR.out.kept hb1).alloc (.cells #[.slice none 0 0, .slice none 0 0, .slice none 0 0] 215)
 have hV := BlockIs.new w1 #[.slice none 0 0, .slice none 0 0, .slice none 0 0] 215
 have hs1 := hR.lt
 have HB1 := (HB.trans (hb1.mono HB.size))
 have HB2 := HB1.alloc HB1.size (.cells #[.slice none 0 0, .slice none 0 0, .slice none 0 0] 215)
 clear h0 h1 c0 c1 HH HC HR hb1 HB HB1
 obtain ⟨W, hW⟩ : ∃ W, w1.alloc (.cells #[.slice none 0 0, .slice none 0 0, .slice none 0 0] 215) = W := ⟨_, rfl⟩
 rw [hW] at hC hR hV HB2
 have h1 := hH.cell (i := 1) (v := .int .i64 b) rfl
 have c0 := hC.cell (i := 0) (v := .slice p 0 c) rfl
 have c1 := hC.cell (i := 1) (v := .slice q 0 d) rfl
 have v0 := hV.cell (i := 0) (v := .slice none 0 0) rfl
 have v1 := hV.cell (i := 1) (v := .slice none 0 0) rfl
 have v2 := hV.cell (i := 2) (v := .slice none 0 0) rfl
 have HR := Lib.hid hR
 have HR2 := Lib.hid (hR.row vw0)
 have HB3 := Lib.hid (below_setRow HB2 (by omega : w.heap.size ≤ w.heap.size + 1 + 1) vw0)
 have hl0 := Lib.hid (block_sub hV 0 3)
 have HW := Lib.hid hW
 clear hW hH hC hR hV HB2 hs1
 go_upto_region 7 with (go_at_call 152; refine (lwithin_yes _ _ _ _ (by omega) (by omega)).mono ?_; rintro e w' ⟨rfl, rfl⟩)
 rw [HW.out]
 clear h1 HW
 go_wp2_with fail
 go_loopw [32] (fun iv wr => iv = .int .i64 0 ∧ W = wr) (fun _ _ => 0)
 case atStart => exact ⟨rfl, rfl⟩
 case round =>
  obtain ⟨rfl, rfl⟩ := hrel
  go_wp2_with fail
  go_loopw [51] (fun iv wr => iv = .int .i64 0 ∧ W = wr) (fun _ _ => 0)
  case atStart => exact ⟨rfl, rfl⟩
  case round =>
   obtain ⟨rfl, rfl⟩ := hrel
   go_wp2_with (first
    | ((with_reducible show wpList _ _ _ _ _ _); refine wl_any 215 (.tmp 9) vw0.toList w1.heap.size 0 _ Tryz.underlying215 rfl view_info ?_ ?_ ?_ hl0.out ?_; rfl; rfl; rfl)
    | ((with_reducible show wpList _ _ _ _ _ _); refine ws_any 215 (.tmp 6) (.tmp 79) vw0 (w.heap.size + 1 + 1) _ 215 ?_ ?_ ?_ ?_ HR.out view_info rfl (by simp [vw0, Value.oneCell']) ?_; rfl; rfl; rfl; rfl))
   refine bodyPost_ret (v := .tuple #[.agg vw0, .int .i64 0]) ?_ rfl ⟨rfl, HB3.out⟩
   refine res_cell_tmp (p := 6) (u := 7) ?_ _ _ (w.heap.size + 1 + 1) 215 vw0 _ ?_ HR2.out Tryz.underlying215 rfl view_info
   all_goals rfl
def rgI (k : Nat) : List Int := (List.range k).map fun j : Nat => (j : Int)
def PlanI (c : Cfg) (nth : Int) (w : World) (i : Value) (wr : World) : Prop :=
 ∃ (k : Nat) (v : Value), k ≤ c.fl.toNat ∧ i = .int .i64 (k : Int) ∧ wr.ownsRow (w.heap.size + 1 + 1 + 1) 3 1 v k ((rgI k).map (.int .i64)) ∧ BlockIs wr (w.heap.size + 1 + 1) (plA v c.ca nth) 209 ∧ BlockIs wr (w.heap.size + 1) #[.slice none 0 0, .int .i64 0, .int .i64 0] 209 ∧ Below w.heap.size w wr ∧ w.heap.size + 1 + 1 + 1 ≤ wr.heap.size
set_option maxRecDepth 100000 in
theorem aplan_two (c : Cfg) (vs vw : Value) (nth : Int) (w : World) (h : CfgOk c) :
  Calls Tryz.prog 172 #[.agg (cfgA c vs vw), .int .i64 2, .int .i64 nth] w (PlanP c nth w) := by
 obtain ⟨i0, hi0, hz0, hz1, hz2⟩ := info_hid int_info0
 have hf1 := h.fl1
 have hf2 := h.fl2
 obtain ⟨n, hn⟩ : ∃ n : Nat, c.fl.toNat = n := ⟨_, rfl⟩
 have hnf : c.fl = (n : Int) := by omega
 have hC := (BlockIs.new w (cfgA c vs vw) 33).alloc (.cells #[.slice none 0 0, .int .i64 0, .int .i64 0] 209)
 have hR := BlockIs.new (w.alloc (.cells (cfgA c vs vw) 33)) #[.slice none 0 0, .int .i64 0, .int .i64 0] 209
 simp only [World.size_alloc] at hR
 have HB := (((Below.refl w.heap.size w).alloc (by exact Nat.le_refl _) (.cells (cfgA c vs vw) 33)).alloc (by simp only [World.size_alloc]; omega) (.cells #[.slice none 0 0, .int .i64 0, .int .i64 0] 209))
 have c1 := hC.cell (i := 1) (v := .int .i64 c.ca) rfl
 have hC2 := hC.alloc (.cells #[.slice none 0 0, .int .i64 c.ca, .int .i64 nth] 209)
 have hR2 := hR.alloc (.cells #[.slice none 0 0, .int .i64 c.ca, .int .i64 nth] 209)
 have hP2 := BlockIs.new ((w.alloc (.cells (cfgA c vs vw) 33)).alloc (.cells #[.slice none 0 0, .int .i64 0, .int .i64 0] 209)) #[.slice none 0 0, .int .i64 c.ca, .int .i64 nth] 209
 simp only [World.size_alloc] at hP2
 have HB2 := HB.alloc (by simp only [World.size_alloc]; omega) (.cells #[.slice none 0 0, .int .i64 c.ca, .int .i64 nth] 209)
 obtain ⟨W, hW⟩ : ∃ W, ((w.alloc (.cells (cfgA c vs vw) 33)).alloc (.cells #[.slice none 0 0, .int .i64 0, .int .i64 0] 209)).alloc (.cells #[.slice none 0 0, .int .i64 c.ca, .int .i64 nth] 209) = W := ⟨_, rfl⟩
 have hsz : W.heap.size = w.heap.size + 1 + 1 + 1 := by rw [← hW]; simp
 rw [hW] at hC2 hR2 hP2 HB2
 have c0 := hC2.cell (i := 0) (v := .int .i64 c.fl) rfl
 have hst : PlanI c nth w (.int .i64 0) W := ⟨0, .slice none 0 0, by omega, rfl, World.ownsRow_nil W _ 3 1, hP2, hR2, HB2, by omega⟩
 have HW := Lib.hid hW
 rw [hnf] at c0
 clear hC hR HB hC2 hR2 hP2 HB2 hW h
 go_enter Tryz.func172, Tryz.ntmps172
 go_upto_region 2 with fail
 rw [HW.out]
 clear c1 HW
 go_wp2_with fail
 go_loopw [8, 27] (fun _ iv wr => PlanI c nth w iv wr) (fun _ iv _ => (n - intOf iv).toNat)
 case atStart => exact hst
 case round =>
  clear hst c0 hsz
  obtain ⟨k, v, hk, rfl, hown, hP, hR, hB, hsz⟩ := hrel
  rw [hn] at hk
  have x0 := hP.cell (i := 0) (v := v) rfl
  have f0 := hP.free 0
  by_cases hc : k < n
  ·have hd : decide (k < n) = true := by simpa using hc
   have hP1 := hP.alloc (.cells #[.int .i64 (k : Int)] 3)
   go_wp2_with (first | (at_builtin; refine wpList_append_lies _ rfl (.tmp 31) (.tmp 33) 22 rfl (w.heap.size + 1 + 1 + 1) 3 i0 (.int .i64 0) 1 8 Tryz.underlying22 (hi0 ()) hz0 hz1 hz2 rfl (by decide) _ k _ rfl (hown.alloc _) ⟨wr.heap.size, 0, none⟩ 1 1 [.int .i64 (k : Int)] rfl rfl (cell_one_new _ _ _) (by intro u hu; simp at hu; subst hu; rfl) (by omega) (by unfold maxLen; omega) (by omega) (by simp; omega) _ rfl ?_; intro g cap w1 h2 h3 h4 h5; have hP3 := hP1.grownNot h3 (fun e => by have := (hown.lt _ e.symm).1; omega); have z0 := hP3.cell (i := 0) (v := v) rfl; have z1 := hP3.free 0))
   have hR3 := (hR.alloc (.cells #[.int .i64 (k : Int)] 3)).grownNot h3 (fun e => by have := (hown.lt _ e.symm).1; omega)
   have hT := (Turn.refl (fun k => k = w.heap.size + 1 + 1) w1).setCell rfl 0 (.slice (some ⟨g, 0, none⟩) (k + 1) cap)
   have hO4 := hT.own h2 (fun k hk => by have := (h2.lt _ hk).1; omega)
   have hB1 := (hB.alloc hB.size (.cells #[.int .i64 (k : Int)] 3)).grown h3 (by simp; omega) (fun k e => by have := (hown.lt _ e).1; omega)
   have hB4 := hB1.trans (hT.below (B := w.heap.size) (by have := hB1.size; omega) (by intro k hk; omega))
   have hz4 : w.heap.size + 1 + 1 + 1 ≤ w1.heap.size := by have := h3.size; simp at this; omega
   go_round
   case rel => exact ⟨k + 1, .slice (some ⟨g, 0, none⟩) (k + 1) cap, by omega, by go_num, by rw [show rgI (k + 1) = rgI k ++ [(k : Int)] by simp [rgI, List.range_succ], List.map_append]; exact hO4, hP3.set 0 _, hR3.other (a := ⟨w.heap.size + 1 + 1, 0, none⟩) (by show w.heap.size + 1 ≠ w.heap.size + 1 + 1; omega) _, hB4, Nat.le_trans hz4 hT.size⟩
   case measure => simp [intOf]; omega
  ·have e : k = n := by omega
   subst e
   have hd : decide (k < k) = false := by simp
   obtain ⟨pv, qv, rfl⟩ := (own_rd hown).form
   have hl0 := block_sub hP 0 3
   have HR := Lib.hid hR
   have HR5 := Lib.hid (hR.row (plA (.slice pv k qv) c.ca nth))
   have HO5 := Lib.hid ((((Turn.refl (fun k => k = w.heap.size + 1) wr).setRow rfl (plA (.slice pv k qv) c.ca nth)).own hown (fun k hk => by have := (hown.lt _ hk).1; omega)).mono (base' := w.heap.size) (by omega))
   have HB5 := Lib.hid (below_setRow hB (by omega : w.heap.size ≤ w.heap.size + 1) (plA (.slice pv k qv) c.ca nth))
   have HL0 := Lib.hid hl0
   clear hown hP hR hB hl0 x0 f0
   go_wp2_with (first
    | ((with_reducible show wpList _ _ _ _ _ _); refine wl_any 209 (.tmp 7) (plA (.slice pv k qv) c.ca nth).toList (w.heap.size + 1 + 1) 0 _ Tryz.underlying209 rfl plan_info ?_ ?_ ?_ HL0.out ?_; rfl; rfl; rfl)
    | ((with_reducible show wpList _ _ _ _ _ _); refine ws_any 209 (.tmp 6) (.tmp 37) (plA (.slice pv k qv) c.ca nth) (w.heap.size + 1) _ 209 ?_ ?_ ?_ ?_ HR.out plan_info rfl (by simp [plA, Value.oneCell']) ?_; rfl; rfl; rfl; rfl))
   refine bodyPost_ret (res_row rfl _ _ (w.heap.size + 1) 209 (plA (.slice pv k qv) c.ca nth) _ rfl HR5.out Tryz.underlying209 rfl plan_info) rfl ⟨_, rgI k, rfl, by rw [← hn]; exact range_stops hf1, by rw [show (rgI k).length = k by simp [rgI]]; exact HO5.out, HB5.out⟩
end Go.Proofs.YtfnifgppblbjhaaGreatDoor
