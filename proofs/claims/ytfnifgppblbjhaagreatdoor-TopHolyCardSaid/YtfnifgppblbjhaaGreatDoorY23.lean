/- Part of the proof of TopHoly. -/
import Derived.Test.YtfnifgppblbjhaaGreatDoorY01
import Derived.Test.YtfnifgppblbjhaaGreatDoorY16
import Derived.Test.YtfnifgppblbjhaaGreatDoorY21
import Derived.Test.YtfnifgppblbjhaaGreatDoorY22
namespace Go.Proofs.YtfnifgppblbjhaaGreatDoor
set_option maxHeartbeats 8000000
open Go Go.RowKit
set_option linter.unusedVariables false
set_option linter.unusedSimpArgs false
def rc0 : Array Value := #[.int .i64 0, .int .i64 0, .int .i64 0, .slice none 0 0]
theorem frec_none (p q : Option Addr) (c d : Nat) (w : World) : Calls Tryz.prog 51 #[.agg #[.slice p 0 c, .slice q 0 d]] w fun e w' => e = .returned (.tuple #[.agg rc0, .bool false, .int .i64 123]) ∧ Below w.heap.size w w' := by
 have hF := (BlockIs.new w #[.slice p 0 c, .slice q 0 d] 64).alloc (.cells #[.int .i64 0, .int .i64 0, .int .i64 0, .slice none 0 0] 70)
 have hR := BlockIs.new (w.alloc (.cells #[.slice p 0 c, .slice q 0 d] 64)) #[.int .i64 0, .int .i64 0, .int .i64 0, .slice none 0 0] 70
 simp only [World.size_alloc] at hR
 have HB := (((Below.refl w.heap.size w).alloc (by exact Nat.le_refl _) (.cells #[.slice p 0 c, .slice q 0 d] 64)).alloc (by simp only [World.size_alloc]; omega) (.cells #[.int .i64 0, .int .i64 0, .int .i64 0, .slice none 0 0] 70))
 have c0 := hF.cell (i := 0) (v := .slice p 0 c) rfl
 have c1 := hF.cell (i := 1) (v := .slice q 0 d) rfl
 have HF := Lib.hid hF
 have HR := Lib.hid hR
 clear hF hR
 go_enter Tryz.func51, Tryz.ntmps51
 go_wp2_with fail
 refine (fread_nil p c _).mono ?_; rintro e w1 ⟨rfl, hb1⟩
 have hF1 := (HF.out.kept hb1).alloc (.cells #[.int .i64 0, .int .i64 0, .int .i64 0, .slice none 0 0] 70)
 have hR1 := (HR.out.kept hb1).alloc (.cells #[.int .i64 0, .int .i64 0, .int .i64 0, .slice none 0 0] 70)
 have HB1 := HB.trans (hb1.mono HB.size)
 have HB2 := HB1.alloc HB1.size (.cells #[.int .i64 0, .int .i64 0, .int .i64 0, .slice none 0 0] 70)
 have x1 := hF1.cell (i := 1) (v := .slice q 0 d) rfl
 have hA1 := BlockIs.new w1 #[.int .i64 0, .int .i64 0, .int .i64 0, .slice none 0 0] 70
 have HR1 := Lib.hid hR1
 clear c0 c1 hb1 HB HF HR hF1 hR1 HB1
 go_wp2_with fail
 refine (fread_nil q d _).mono ?_; rintro e w2 ⟨rfl, hb2⟩
 have hR2 := (HR1.out.kept hb2).alloc (.cells #[.int .i64 0, .int .i64 0, .int .i64 0, .slice none 0 0] 70)
 have HB3 := HB2.trans (hb2.mono HB2.size)
 have HB4 := HB3.alloc HB3.size (.cells #[.int .i64 0, .int .i64 0, .int .i64 0, .slice none 0 0] 70)
 have HR2 := Lib.hid hR2
 have HR3 := Lib.hid (hR2.row rc0)
 have HB5 := Lib.hid (below_setRow HB4 (by omega : w.heap.size ≤ w.heap.size + 1) rc0)
 clear x1 hA1 HR1 HB2 hb2 HB3 HB4 hR2
 go_wp2_with ((with_reducible show wpList _ _ _ _ _ _); refine ws_any 70 (.tmp 2) (.tmp 28) rc0 (w.heap.size + 1) _ 70 ?_ ?_ ?_ ?_ HR2.out rec_info rfl (by simp [rc0, Value.oneCell']) ?_; rfl; rfl; rfl; rfl)
 refine bodyPost_ret (v := .tuple #[.agg rc0, .bool false, .int .i64 123]) ?_ rfl ⟨rfl, HB5.out⟩
 refine res_ctt (p := 2) (u := 3) (v := 4) ?_ _ _ (w.heap.size + 1) 70 rc0 _ ?_ HR3.out Tryz.underlying70 rfl rec_info
 all_goals rfl
theorem frec_one (g k m : Int) (l : List Nat) (v : Value) (q : Option Addr) (d : Nat) (w : World) (ht : Tab w) (hv : Rd w v (recB g k m l).length (bts (recB g k m l))) (hb : ∀ x ∈ l, x < 256) (hl : l.length ≤ 4096) (hl0 : 0 < l.length) (g1 : 1 ≤ g) (g2 : g ≤ 1099511627776) (hk : I64 k) (m1 : 0 ≤ m) (m2 : m ≤ 5) :
  Calls Tryz.prog 51 #[.agg #[v, .slice q 0 d]] w fun e w' => ∃ v', e = .returned (.tuple #[.agg #[.int .i64 g, .int .i64 k, .int .i64 m, v'], .bool false, .int .i64 0]) ∧ w'.ownsRow w.heap.size 5 1 v' l.length (bts l) ∧ Below w.heap.size w w' := by
 obtain ⟨p, cp, hpe⟩ := hv.form
 subst hpe
 have hF := (BlockIs.new w #[.slice p (recB g k m l).length cp, .slice q 0 d] 64).alloc (.cells #[.int .i64 0, .int .i64 0, .int .i64 0, .slice none 0 0] 70)
 have hR := BlockIs.new (w.alloc (.cells #[.slice p (recB g k m l).length cp, .slice q 0 d] 64)) #[.int .i64 0, .int .i64 0, .int .i64 0, .slice none 0 0] 70
 simp only [World.size_alloc] at hR
 have HB := (((Below.refl w.heap.size w).alloc (by exact Nat.le_refl _) (.cells #[.slice p (recB g k m l).length cp, .slice q 0 d] 64)).alloc (by simp only [World.size_alloc]; omega) (.cells #[.int .i64 0, .int .i64 0, .int .i64 0, .slice none 0 0] 70))
 have c0 := hF.cell (i := 0) (v := .slice p (recB g k m l).length cp) rfl
 have c1 := hF.cell (i := 1) (v := .slice q 0 d) rfl
 have ht1 := ht.below HB
 have hv1 := hv.below HB
 have HV := Lib.hid hv1
 have HF := Lib.hid hF
 have HR := Lib.hid hR
 clear hF hR hv hv1 ht
 go_enter Tryz.func51, Tryz.ntmps51
 go_wp2_with fail
 refine (fread_ok g k m l _ _ ht1 HV.out hb hl hl0 g1 g2 hk m1 m2).mono ?_; rintro e w1 ⟨v1, rfl, hown, hb1⟩
 obtain ⟨p1, q1, rfl⟩ := (own_rd hown).form
 have hF1 := (HF.out.kept hb1).alloc (.cells #[.int .i64 g, .int .i64 k, .int .i64 m, .slice p1 l.length q1] 70)
 have hR1 := (HR.out.kept hb1).alloc (.cells #[.int .i64 g, .int .i64 k, .int .i64 m, .slice p1 l.length q1] 70)
 have HB1 := HB.trans (hb1.mono HB.size)
 have HB2 := HB1.alloc HB1.size (.cells #[.int .i64 g, .int .i64 k, .int .i64 m, .slice p1 l.length q1] 70)
 have hown1 := hown.alloc (.cells #[.int .i64 g, .int .i64 k, .int .i64 m, .slice p1 l.length q1] 70)
 have x1 := hF1.cell (i := 1) (v := .slice q 0 d) rfl
 have hA1 := BlockIs.new w1 #[.int .i64 g, .int .i64 k, .int .i64 m, .slice p1 l.length q1] 70
 have HR1 := Lib.hid hR1
 have HA1 := Lib.hid hA1
 have HO1 := Lib.hid hown1
 clear c0 c1 hb1 HB HF HR hF1 hR1 HB1 ht1 HV hown hown1 hA1
 go_wp2_with fail
 refine (fread_nil q d _).mono ?_; rintro e w2 ⟨rfl, hb2⟩
 have hR2 := (HR1.out.kept hb2).alloc (.cells #[.int .i64 0, .int .i64 0, .int .i64 0, .slice none 0 0] 70)
 have hA2 := (HA1.out.kept hb2).alloc (.cells #[.int .i64 0, .int .i64 0, .int .i64 0, .slice none 0 0] 70)
 have hO2 := (own_below HO1.out hb2).alloc (.cells #[.int .i64 0, .int .i64 0, .int .i64 0, .slice none 0 0] 70)
 have HB3 := HB2.trans (hb2.mono HB2.size)
 have HB4 := HB3.alloc HB3.size (.cells #[.int .i64 0, .int .i64 0, .int .i64 0, .slice none 0 0] 70)
 have HR2 := Lib.hid hR2
 have HR3 := Lib.hid (hR2.row #[.int .i64 g, .int .i64 k, .int .i64 m, .slice p1 l.length q1])
 have HB5 := Lib.hid (below_setRow HB4 (by omega : w.heap.size ≤ w.heap.size + 1) #[.int .i64 g, .int .i64 k, .int .i64 m, .slice p1 l.length q1])
 have HO3 := Lib.hid ((((Turn.refl (fun k => k = w.heap.size + 1) _).setRow rfl #[.int .i64 g, .int .i64 k, .int .i64 m, .slice p1 l.length q1]).own hO2 (fun k hk => by have := (hO2.lt _ hk).1; simp only [World.size_alloc] at this; omega)).mono (base' := w.heap.size) (by simp only [World.size_alloc]; omega))
 have HL0 := Lib.hid (block_sub hA2 0 4)
 clear x1 HR1 HB2 hb2 HB3 HB4 hR2 hA2 hO2 HA1 HO1
 go_wp2_with (first
  | ((with_reducible show wpList _ _ _ _ _ _); refine wl_any 70 (.tmp 5) [.int .i64 g, .int .i64 k, .int .i64 m, .slice p1 l.length q1] w1.heap.size 0 _ Tryz.underlying70 rfl rec_info ?_ ?_ ?_ HL0.out ?_; rfl; rfl; rfl)
  | ((with_reducible show wpList _ _ _ _ _ _); refine ws_any 70 (.tmp 2) (.tmp 44) #[.int .i64 g, .int .i64 k, .int .i64 m, .slice p1 l.length q1] (w.heap.size + 1) _ 70 ?_ ?_ ?_ ?_ HR2.out rec_info rfl (by simp [Value.oneCell']) ?_; rfl; rfl; rfl; rfl))
 refine bodyPost_ret (v := .tuple #[.agg #[.int .i64 g, .int .i64 k, .int .i64 m, .slice p1 l.length q1], .bool false, .int .i64 0]) ?_ rfl ⟨_, rfl, HO3.out, HB5.out⟩
 refine res_ctt (p := 2) (u := 3) (v := 4) ?_ _ _ (w.heap.size + 1) 70 #[.int .i64 g, .int .i64 k, .int .i64 m, .slice p1 l.length q1] _ ?_ HR3.out Tryz.underlying70 rfl rec_info
 all_goals rfl
theorem results_tct {fn : Func} {p u v : Tmp} {ty : TypeId} (h : fn.results = #[.tmp u, .cell p ty, .tmp v]) (tmps : Array Value) (P : Program) (w : World) :
  (results fn tmps).run P w = ((asAddr (tmps.getD p undef)).run P w).andThen fun a w₁ => ((loadVar ty a).run P w₁).andThen fun x w₂ => .ok (.tuple #[tmps.getD u undef, x, tmps.getD v undef]) w₂ := by
 simp only [results, h]
 simp [Sem.run_bind, Result.andThen]
theorem res_tct {fn : Func} {p u v : Tmp} {ty : TypeId} (h : fn.results = #[.tmp u, .cell p ty, .tmp v]) (tmps : Array Value) {P : Program} (w : World) (b : Nat) (t : TypeId) (cs : Array Value) (d : TypeDesc)
  (hp : tmps.getD p undef = .pointer (some ⟨b, 0, none⟩)) (hc : BlockIs w b cs t) (hu : P.underlying ty = some d) (hd : d.isRow = true) (hi : (P.info? ty).map (·.size) = some cs.size) :
  (results fn tmps).run P w = .ok (.tuple #[tmps.getD u undef, .agg cs, tmps.getD v undef]) w := by
 have hl := run_loadVar_mid (P := P) w b 0 ty cs.toList d (fun j v hv => by rw [Nat.zero_add]; exact hc.cell (by simpa using hv)) hu hd (by simpa using hi)
 rw [results_tct h, hp]
 simp only [asAddr, Sem.run_pure, Result.andThen_ok, hl]
set_option maxRecDepth 100000 in
theorem aHome_ok (c : Cfg) (vs vw : Value) (mode nth : Int) (w : World) (h : CfgOk c) (hm : CfgM w c vs vw) (h0 : mode = 1 ∨ mode = 2) (n0 : 0 ≤ nth) (n1 : nth < c.ca) :
  Calls Tryz.prog 170 #[.agg (cfgA c vs vw), .int .i64 mode, .int .i64 nth] w fun e w' => ∃ (home : Int) (p : Option Addr) (n q : Nat), e = .returned (.tuple #[.int .i64 home, .agg (plA (.slice p n q) c.ca nth), .int .i64 0]) ∧ Below w.heap.size w w' := by
 have hC := (BlockIs.new w (cfgA c vs vw) 33).alloc (.cells #[.slice none 0 0, .int .i64 0, .int .i64 0] 209)
 have hR := BlockIs.new (w.alloc (.cells (cfgA c vs vw) 33)) #[.slice none 0 0, .int .i64 0, .int .i64 0] 209
 simp only [World.size_alloc] at hR
 have HB := (((Below.refl w.heap.size w).alloc (by exact Nat.le_refl _) (.cells (cfgA c vs vw) 33)).alloc (by simp only [World.size_alloc]; omega) (.cells #[.slice none 0 0, .int .i64 0, .int .i64 0] 209))
 have HM0 := Lib.hid hm
 have HC := Lib.hid hC
 have HR := Lib.hid hR
 have hrange := cfg_range hC
 have m1 : 1 ≤ mode := by omega
 have m2 : mode ≤ 5 := by omega
 clear hm hC hR
 go_enter Tryz.func170, Tryz.ntmps170
 go_wp2_with (((with_reducible show wpList _ _ _ _ _ _); refine wl_cfg (.tmp 3) c vs vw w.heap.size 0 ?_ ?_ ?_ hrange ?_; rfl; rfl; rfl))
 refine (kCheck_ok c vs vw _ h (HM0.out.below HB)).mono ?_; rintro e w1 ⟨rfl, hb1⟩
 have hC1 := HC.out.kept hb1
 have hR1 := HR.out.kept hb1
 have HB1 := HB.trans (hb1.mono HB.size)
 have c1 := hC1.cell (i := 1) (v := .int .i64 c.ca) rfl
 have hrange1 := cfg_range hC1
 have HR1 := Lib.hid hR1
 clear hrange HC HR hb1 HB hC1 hR1
 go_wp2_with (((with_reducible show wpList _ _ _ _ _ _); refine wl_cfg (.tmp 3) c vs vw w.heap.size 0 ?_ ?_ ?_ hrange1 ?_; rfl; rfl; rfl))
 refine (aof_ok c vs vw mode nth _ h (HM0.out.below HB1) h0 n0 n1).mono ?_; rintro e w2 ⟨v, st, home, rfl, hst, hrd, x0, x1, hb2⟩
 obtain ⟨pv, qv, rfl⟩ := hrd.form
 generalize gearM c mode = g at *
 have hR2 := HR1.out.kept hb2
 have HB2 := HB1.trans (hb2.mono HB1.size)
 have hM := BlockIs.new w2 #[.slice none 0 0, .int .i64 0, .int .i64 0, .int .i64 0, .int .i64 0, .int .i64 0, .int .i64 0, .int .i64 0, .int .i64 0, .int .i64 0, .int .i64 0, .int .i64 0, .int .i64 0, .int .i64 0] 211
 have hR3 := hR2.alloc (.cells #[.slice none 0 0, .int .i64 0, .int .i64 0, .int .i64 0, .int .i64 0, .int .i64 0, .int .i64 0, .int .i64 0, .int .i64 0, .int .i64 0, .int .i64 0, .int .i64 0, .int .i64 0, .int .i64 0] 211)
 have HB3 := HB2.alloc HB2.size (.cells #[.slice none 0 0, .int .i64 0, .int .i64 0, .int .i64 0, .int .i64 0, .int .i64 0, .int .i64 0, .int .i64 0, .int .i64 0, .int .i64 0, .int .i64 0, .int .i64 0, .int .i64 0, .int .i64 0] 211)
 have hlt := hR2.lt
 have hM4 := hM.row (mvA (.slice pv st.length qv) c.ca nth g home)
 have hR4 := hR3.rowOther (b' := w2.heap.size) (by omega) (mvA (.slice pv st.length qv) c.ca nth g home)
 have HB4 := Lib.hid (below_setRow HB3 HB2.size (mvA (.slice pv st.length qv) c.ca nth g home))
 have HM := Lib.hid hM
 have HM4 := Lib.hid hM4
 have HR4 := Lib.hid hR4
 clear c1 hrange1 HR1 HB1 hb2 hR2 HB2 hM hR3 HB3 hM4 hR4
 go_wp2_with ((with_reducible show wpList _ _ _ _ _ _); refine ws_any 211 (.tmp 10) (.tmp 16) (mvA (.slice pv st.length qv) c.ca nth g home) w2.heap.size _ 211 ?_ ?_ ?_ ?_ HM.out moves_info rfl (by simp [mvA, Value.oneCell']) ?_; rfl; rfl; rfl; rfl)
 refine wp_region_held_drew (S := fun w' => w'.cell? ⟨w2.heap.size, 13, none⟩ = some (.int .i64 home) ∧ BlockIs w' w2.heap.size (mvA (.slice pv st.length qv) c.ca nth g home) 211) (by kernel_rfl) ⟨HM4.out.cell (i := 13) (v := .int .i64 home) rfl, HM4.out⟩ (fun hHeld => ?_)
 refine tkH 0 ?_
 try simp only [pt]
 refine tkH 1 ?_
 try simp only [pt]
 refine tkH 2 ?_
 try simp only [pt]
 refine tkH 3 ?_ (hy := by (intro w hSw; refine load_x 209 (.tmp 19) (plA (.slice pv st.length qv) c.ca nth).toList _ 0 _ Tryz.underlying209 rfl plan_info ?_ ?_ w (block_sub hSw.2 0 3) <;> rfl))
 try simp only [pt]
 refine rdy [4] ?_
 refine' arC rfl (fun KK hKK => ?a4) AllReadyH.nil
 go_simp
 refine' hKK.out _ _ ?ah4 (fun _ => ?ar4)
 case ah4 => assumption
 clear hKK KK
 try simp only [pt]
 refine rdy [5] ?_
 refine' arC rfl (fun KK hKK => ?a5) AllReadyH.nil
 refine wp_store_row 209 (.tmp 7) (.tmp 20) rfl (w.heap.size + 1) (plA (.slice pv st.length qv) c.ca nth) rfl rfl 209 _ HR4.out plan_info rfl (by simp [plA, Value.oneCell']) ?_
 refine hKK.out _ _ (⟨(HM4.out.rowOther (by omega) _).cell rfl, HM4.out.rowOther (by omega) _⟩) (fun _ => ?_)
 clear hKK KK
 try simp only [pt]
 refine rdy [6] ?_
 refine' arC rfl (fun KK hKK => ?a6) AllReadyH.nil
 go_simp
 refine' hKK.out _ _ ?ah6 (fun _ => ?ar6)
 case ah6 => assumption
 clear hKK KK
 try simp only [pt]
 refine wpAnyH_done (by kernel_rfl) ?_ _
 have HR5 := Lib.hid (HR4.out.row (plA (.slice pv st.length qv) c.ca nth))
 have HB5 := Lib.hid (below_setRow HB4.out.drew (by omega : w.heap.size ≤ w.heap.size + 1) (plA (.slice pv st.length qv) c.ca nth))
 clear HM HM4 HR4 HB4 hHeld
 go_wp2_with fail
 refine bodyPost_ret (v := .tuple #[.int .i64 home, .agg (plA (.slice pv st.length qv) c.ca nth), .int .i64 0]) ?_ rfl ⟨home, pv, st.length, qv, rfl, HB5.out⟩
 refine res_tct (p := 7) (u := 6) (v := 8) ?_ _ _ (w.heap.size + 1) 209 (plA (.slice pv st.length qv) c.ca nth) _ ?_ HR5.out Tryz.underlying209 rfl plan_info
 all_goals rfl
def auA (c : Cfg) (vs vw : Value) (mode nth : Int) : Array Value := ((cfgA c vs vw).toList ++ ([.int .i64 mode, .int .i64 nth, .int .i64 0, .int .i64 0, .int .i64 0, .int .i64 0, .int .i64 0, .int .i64 0, .int .i64 0, .int .i64 0] : List Value)).toArray
theorem auto_info : (Tryz.prog.info? 139).map (·.size) = some 47 := by kernel_rfl
theorem au_cfg {w : World} {b : Nat} {c : Cfg} {vs vw : Value} {mode nth : Int} {t : TypeId} (h : BlockIs w b (auA c vs vw mode nth) t) : w.rangeAt b 0 (cfgA c vs vw).toList := block_sub h 0 37
theorem asettle_ok (c : Cfg) (vs vw : Value) (w : World) (h : CfgOk c) : Calls Tryz.prog 221 #[.agg (cfgA c vs vw)] w fun e w' => e = .returned (.int .i64 (c.fl * c.tv + 480)) ∧ Below w.heap.size w w' := by
 obtain ⟨⟨a1, a2⟩, _⟩ := h.tm
 have f1 := h.fl1
 have f2 := h.fl2
 have b0 : 0 ≤ c.fl * c.tv := Int.mul_nonneg (by omega) (by omega)
 have b1 : c.fl * c.tv ≤ 64 * c.tv := Int.mul_le_mul_of_nonneg_right f2 (by omega)
 have e1 : IntKind.i64.wrap (c.fl * c.tv) = c.fl * c.tv := IntWalk.i64_in _ ⟨by omega, by omega⟩
 have e2 : IntKind.i64.wrap (c.fl * c.tv + 180) = c.fl * c.tv + 180 := IntWalk.i64_in _ ⟨by omega, by omega⟩
 have e3 : IntKind.i64.wrap (c.fl * c.tv + 180 + 300) = c.fl * c.tv + 180 + 300 := IntWalk.i64_in _ ⟨by omega, by omega⟩
 have e4 : c.fl * c.tv + 180 + 300 = c.fl * c.tv + 480 := by omega
 have E4 := Lib.hid e4
 have hC := BlockIs.new w (cfgA c vs vw) 33
 have HB := ((Below.refl w.heap.size w).alloc (by exact Nat.le_refl _) (.cells (cfgA c vs vw) 33))
 have c0 := hC.cell (i := 0) (v := .int .i64 c.fl) rfl
 have c4 := hC.cell (i := 4) (v := .int .i64 c.tv) rfl
 clear hC e4 h
 go_enter Tryz.func221, Tryz.ntmps221
 go_wp2_with fail
 go_ret
 exact ⟨by rw [← E4.out]; rfl, HB⟩
set_option maxRecDepth 100000 in
theorem atick_ok (c : Cfg) (vs vw : Value) (mode nth : Int) (mv : Array Value) (w : World) (h : CfgOk c) :
  Calls Tryz.prog 174 #[.agg (auA c vs vw mode nth), .agg mv] w fun e w' => e = .returned (.tuple #[.int .i64 0, .bool false]) ∧ Below w.heap.size w w' := by
 have hA := (BlockIs.new w (auA c vs vw mode nth) 139).alloc (.cells mv 211)
 have hM := BlockIs.new (w.alloc (.cells (auA c vs vw mode nth) 139)) mv 211
 simp only [World.size_alloc] at hM
 have HB := (((Below.refl w.heap.size w).alloc (by exact Nat.le_refl _) (.cells (auA c vs vw mode nth) 139)).alloc (by simp only [World.size_alloc]; omega) (.cells mv 211))
 obtain ⟨⟨a1, a2⟩, _⟩ := h.tm
 have f1 := h.fl1
 have f2 := h.fl2
 have b0 : 0 ≤ c.fl * c.tv := Int.mul_nonneg (by omega) (by omega)
 have b1 : c.fl * c.tv ≤ 64 * c.tv := Int.mul_le_mul_of_nonneg_right f2 (by omega)
 obtain ⟨W, hW⟩ : ∃ W, (w.alloc (.cells (auA c vs vw mode nth) 139)).alloc (.cells mv 211) = W := ⟨_, rfl⟩
 rw [hW] at hA HB
 have HA := Lib.hid hA
 have HW := Lib.hid hW
 have hd := (Below.refl W.heap.size W).drew
 have HS := Lib.hid (show ∀ W', Below W.heap.size W W' → W'.cell? ⟨w.heap.size, 39, none⟩ = some (.int .i64 0) ∧ W'.rangeAt w.heap.size 0 (cfgA c vs vw).toList from fun W' h => ⟨(hA.kept h).cell rfl, au_cfg (hA.kept h)⟩)
 clear hA hM hW
 go_enter Tryz.func174, Tryz.ntmps174
 go_wp2_with fail
 rw [HW.out]
 refine wp_region_held_drew (S := fun w' => w'.cell? ⟨w.heap.size, 39, none⟩ = some (.int .i64 0) ∧ w'.rangeAt w.heap.size 0 (cfgA c vs vw).toList) (by kernel_rfl) (HS.out _ hd) (fun hHeld => ?_)
 refine tkH 0 ?_
 try simp only [pt]
 refine tkH 1 ?_
 try simp only [pt]
 refine tkH 2 ?_
 try simp only [pt]
 refine tkH 3 ?_ (hy := by (intro w hSw; refine load_x 33 (.tmp 13) (cfgA c vs vw).toList _ 0 _ Tryz.underlying33 rfl cfg_info ?_ ?_ w (hSw.2) <;> rfl))
 try simp only [pt]
 refine rdy [4] ?_
 refine' arC rfl (fun KK hKK => ?a4) AllReadyH.nil
 go_simp
 refine (asettle_ok c vs vw _ h).mono ?_; rintro e w1 ⟨rfl, hb1⟩; have hB1 := hd.trans (hb1.mono hd.size)
 refine hKK.out _ _ (HS.out _ hB1) (fun _ => ?_)
 clear hKK KK
 try simp only [pt]
 generalize c.fl * c.tv = X at *
 have e1 : IntKind.i64.wrap (0 - (X + 480)) = 0 - (X + 480) := IntWalk.i64_in _ ⟨by omega, by omega⟩
 refine tkH 5 ?_
 try simp only [pt]
 refine rdy [6] ?_
 refine' arC rfl (fun KK hKK => ?a6) AllReadyH.nil
 go_simp
 refine' hKK.out _ _ ?ah6 (fun _ => ?ar6)
 case ah6 => assumption
 clear hKK KK
 try simp only [pt]
 refine wpAnyH_done (by kernel_rfl) ?_ _
 have HB2 := Lib.hid (HB.trans (hB1.mono HB.size))
 clear HS HA hHeld hb1 hB1 hd
 have hneg : 0 - (X + 480) < 0 := by omega
 go_wp2_with fail
 go_ret2
 exact ⟨rfl, HB2.out⟩
set_option maxRecDepth 100000 in
theorem atold_ok (c : Cfg) (vs : Value) (vw : Value) (v : Value) (mode nth home : Int) (g : Gr) (w : World) (h : CfgOk c) (hh : 0 ≤ home) :
  Calls Tryz.prog 111 #[.agg (auA c vs vw mode nth), .agg (mvA v c.ca nth g home), .bool false] w fun e w' => ∃ cmd : Int, (cmd = 0 ∨ cmd = 1) ∧ e = .returned (.int .i64 cmd) ∧ Below w.heap.size w w' := by
 have hA := (BlockIs.new w (auA c vs vw mode nth) 139).alloc (.cells (mvA v c.ca nth g home) 211)
 have hM := BlockIs.new (w.alloc (.cells (auA c vs vw mode nth) 139)) (mvA v c.ca nth g home) 211
 simp only [World.size_alloc] at hM
 have HB := (((Below.refl w.heap.size w).alloc (by exact Nat.le_refl _) (.cells (auA c vs vw mode nth) 139)).alloc (by simp only [World.size_alloc]; omega) (.cells (mvA v c.ca nth g home) 211))
 have hra := block_sub hA 0 47
 have hrm := block_sub hM 0 14
 have HA := Lib.hid hA
 have HM := Lib.hid hM
 clear hA hM
 go_enter Tryz.func111, Tryz.ntmps111
 go_wp2_with (first
  | ((with_reducible show wpList _ _ _ _ _ _); refine wl_any 139 (.tmp 3) (auA c vs vw mode nth).toList w.heap.size 0 _ Tryz.underlying139 rfl auto_info ?_ ?_ ?_ hra ?_; rfl; rfl; rfl)
  | ((with_reducible show wpList _ _ _ _ _ _); refine wl_any 211 (.tmp 4) (mvA v c.ca nth g home).toList (w.heap.size + 1) 0 _ Tryz.underlying211 rfl moves_info ?_ ?_ ?_ hrm ?_; rfl; rfl; rfl))
 refine (atick_ok c vs vw mode nth _ _ h).mono ?_; rintro e w1 ⟨rfl, hb1⟩
 have hA1 := HA.out.kept hb1
 have hM1 := HM.out.kept hb1
 have x40 := hA1.cell (i := 40) (v := .int .i64 0) rfl
 have y13 := hM1.cell (i := 13) (v := .int .i64 home) rfl
 have HB1 := Lib.hid (HB.trans (hb1.mono HB.size))
 clear hra hrm HA HM hb1 HB hA1 hM1
 rcases (show 0 < home ∨ home ≤ 0 by omega) with hp | hp
 ·go_wp2_with fail
  go_ret
  exact ⟨1, .inr rfl, rfl, HB1.out⟩
 ·have e0 : home = 0 := by omega
  subst e0
  go_wp2_with fail
  go_ret
  exact ⟨0, .inl rfl, rfl, HB1.out⟩
set_option maxRecDepth 100000 in
theorem acheck_ok (c : Cfg) (vs vw : Value) (mode nth : Int) (w : World) (h : CfgOk c) (hm : CfgM w c vs vw) (h0 : mode = 1 ∨ mode = 2) (n0 : 0 ≤ nth) (n1 : nth < c.ca) :
  Calls Tryz.prog 109 #[.agg (auA c vs vw mode nth)] w fun e w' => e = .returned (.int .i64 0) ∧ Below w.heap.size w w' := by
 have hA := BlockIs.new w (auA c vs vw mode nth) 139
 have HB := ((Below.refl w.heap.size w).alloc (by exact Nat.le_refl _) (.cells (auA c vs vw mode nth) 139))
 have HM0 := Lib.hid hm
 have hrc := au_cfg hA
 have a37 := hA.cell (i := 37) (v := .int .i64 mode) rfl
 have a38 := hA.cell (i := 38) (v := .int .i64 nth) rfl
 have HA := Lib.hid hA
 clear hm hA
 go_enter Tryz.func109, Tryz.ntmps109
 go_upto_region 1 with fail
 go_wp2_with (((with_reducible show wpList _ _ _ _ _ _); refine wl_cfg (.tmp 7) c vs vw w.heap.size 0 ?_ ?_ ?_ hrc ?_; rfl; rfl; rfl))
 refine (aHome_ok c vs vw mode nth _ h (HM0.out.below HB) h0 n0 n1).mono ?_; rintro e w1 ⟨home, pv, n, qv, rfl, hb1⟩
 have hA1 := HA.out.kept hb1
 have HB1 := HB.trans (hb1.mono HB.size)
 have hA2 := (hA1.alloc (.cells #[.slice none 0 0, .int .i64 0, .int .i64 0] 209)).rowOther (b' := w1.heap.size) (by have := hA1.lt; omega) (plA (.slice pv n qv) c.ca nth)
 have hP1 := BlockIs.new w1 #[.slice none 0 0, .int .i64 0, .int .i64 0] 209
 have HB2 := Lib.hid (below_setRow (HB1.alloc HB1.size (.cells #[.slice none 0 0, .int .i64 0, .int .i64 0] 209)) HB1.size (plA (.slice pv n qv) c.ca nth))
 have b0 := hA2.cell (i := 0) (v := .int .i64 c.fl) rfl
 have b39 := hA2.cell (i := 39) (v := .int .i64 0) rfl
 have hr7 := block_sub hA2 40 7
 have HP1 := Lib.hid hP1
 have f1 := h.fl1
 have f2 := h.fl2
 clear hrc a37 a38 HA hb1 HB hA1 HB1 hA2 hP1
 go_wp2_with (first
  | ((with_reducible show wpList _ _ _ _ _ _); refine ws_any 209 (.tmp 4) (.tmp 15) (plA (.slice pv n qv) c.ca nth) w1.heap.size _ 209 ?_ ?_ ?_ ?_ HP1.out plan_info rfl (by simp [plA, Value.oneCell']) ?_; rfl; rfl; rfl; rfl)
  | ((with_reducible show wpList _ _ _ _ _ _); refine wl_any 85 (.tmp 27) ca0 w.heap.size 40 _ Tryz.underlying85 rfl car_info ?_ ?_ ?_ hr7 ?_; rfl; rfl; rfl))
 refine (carCheck_ok c.fl _ f1 f2).mono ?_; rintro e w3 ⟨rfl, hb3⟩
 have HB3 := Lib.hid (HB2.out.trans (hb3.mono HB2.out.size))
 clear b0 b39 hr7 HP1 HB2 hb3
 go_wp2_with fail
 go_ret
 exact ⟨rfl, HB3.out⟩
set_option maxRecDepth 100000 in
theorem aStep_ok (c : Cfg) (vs vw : Value) (mode nth : Int) (w : World) (h : CfgOk c) (hm : CfgM w c vs vw) (h0 : mode = 1 ∨ mode = 2) (n0 : 0 ≤ nth) (n1 : nth < c.ca) :
  Calls Tryz.prog 58 #[.agg (auA c vs vw mode nth), .agg #[.bool false, .bool false, .bool false]] w (StepP w) := by
 have hA := (((BlockIs.new w (auA c vs vw mode nth) 139).alloc (.cells #[.bool false, .bool false, .bool false] 135)).alloc (.cells #[.int .i64 0, .int .i64 0, .int .i64 0, .int .i64 0, .int .i64 0, .int .i64 0, .int .i64 0] 85)).alloc (.cells #[.int .i64 0, .int .i64 0, .int .i64 0, .bool false] 89)
 have hT := ((BlockIs.new (w.alloc (.cells (auA c vs vw mode nth) 139)) #[.bool false, .bool false, .bool false] 135).alloc (.cells #[.int .i64 0, .int .i64 0, .int .i64 0, .int .i64 0, .int .i64 0, .int .i64 0, .int .i64 0] 85)).alloc (.cells #[.int .i64 0, .int .i64 0, .int .i64 0, .bool false] 89)
 simp only [World.size_alloc] at hT
 have hR := (BlockIs.new ((w.alloc (.cells (auA c vs vw mode nth) 139)).alloc (.cells #[.bool false, .bool false, .bool false] 135)) #[.int .i64 0, .int .i64 0, .int .i64 0, .int .i64 0, .int .i64 0, .int .i64 0, .int .i64 0] 85).alloc (.cells #[.int .i64 0, .int .i64 0, .int .i64 0, .bool false] 89)
 simp only [World.size_alloc] at hR
 have hS := BlockIs.new (((w.alloc (.cells (auA c vs vw mode nth) 139)).alloc (.cells #[.bool false, .bool false, .bool false] 135)).alloc (.cells #[.int .i64 0, .int .i64 0, .int .i64 0, .int .i64 0, .int .i64 0, .int .i64 0, .int .i64 0] 85)) #[.int .i64 0, .int .i64 0, .int .i64 0, .bool false] 89
 simp only [World.size_alloc] at hS
 have HB := (((((Below.refl w.heap.size w).alloc (by exact Nat.le_refl _) (.cells (auA c vs vw mode nth) 139)).alloc (by simp only [World.size_alloc]; omega) (.cells #[.bool false, .bool false, .bool false] 135)).alloc (by simp only [World.size_alloc]; omega) (.cells #[.int .i64 0, .int .i64 0, .int .i64 0, .int .i64 0, .int .i64 0, .int .i64 0, .int .i64 0] 85)).alloc (by simp only [World.size_alloc]; omega) (.cells #[.int .i64 0, .int .i64 0, .int .i64 0, .bool false] 89))
 have HM0 := Lib.hid hm
 have hra := block_sub hA 0 47
 have HA := Lib.hid hA
 have HT := Lib.hid hT
 have HR := Lib.hid hR
 have HS := Lib.hid hS
 clear hm hA hT hR hS
 go_enter Tryz.func58, Tryz.ntmps58
 go_wp2_with ((with_reducible show wpList _ _ _ _ _ _); refine wl_any 139 (.tmp 2) (auA c vs vw mode nth).toList w.heap.size 0 _ Tryz.underlying139 rfl auto_info ?_ ?_ ?_ hra ?_; rfl; rfl; rfl)
 refine (acheck_ok c vs vw mode nth _ h (HM0.out.below HB) h0 n0 n1).mono ?_; rintro e w1 ⟨rfl, hb1⟩
 have hA1 := HA.out.kept hb1
 have hT1 := HT.out.kept hb1
 have hR1 := HR.out.kept hb1
 have hS1 := HS.out.kept hb1
 have HB1 := HB.trans (hb1.mono HB.size)
 have a37 := hA1.cell (i := 37) (v := .int .i64 mode) rfl
 have a38 := hA1.cell (i := 38) (v := .int .i64 nth) rfl
 have hrc := au_cfg hA1
 clear hra HA HT HR HS HB hb1
 have HA := Lib.hid hA1
 have HT := Lib.hid hT1
 have HR := Lib.hid hR1
 have HS := Lib.hid hS1
 clear hA1 hT1 hR1 hS1
 go_upto_region 4 with fail
 go_wp2_with (((with_reducible show wpList _ _ _ _ _ _); refine wl_cfg (.tmp 16) c vs vw w.heap.size 0 ?_ ?_ ?_ hrc ?_; rfl; rfl; rfl))
 refine (aof_ok c vs vw mode nth _ h (HM0.out.below HB1) h0 n0 n1).mono ?_; rintro e w2 ⟨v, st, home, rfl, hst, hrd, x0, x1, hb2⟩
 obtain ⟨pv, qv, rfl⟩ := hrd.form
 have hg := gearM_ok h mode
 generalize gearM c mode = g at *
 have hA2 := HA.out.kept hb2
 have hT2 := HT.out.kept hb2
 have hR2 := HR.out.kept hb2
 have hS2 := HS.out.kept hb2
 have HB2 := HB1.trans (hb2.mono HB1.size)
 have hlt := hS2.lt
 obtain ⟨M, hM⟩ : ∃ M, mvA (.slice pv st.length qv) c.ca nth g home = M := ⟨_, rfl⟩
 have hA3 := (hA2.alloc (.cells #[.slice none 0 0, .int .i64 0, .int .i64 0, .int .i64 0, .int .i64 0, .int .i64 0, .int .i64 0, .int .i64 0, .int .i64 0, .int .i64 0, .int .i64 0, .int .i64 0, .int .i64 0, .int .i64 0] 211)).rowOther (b' := w2.heap.size) (by omega) (mvA (.slice pv st.length qv) c.ca nth g home)
 have hT3 := (hT2.alloc (.cells #[.slice none 0 0, .int .i64 0, .int .i64 0, .int .i64 0, .int .i64 0, .int .i64 0, .int .i64 0, .int .i64 0, .int .i64 0, .int .i64 0, .int .i64 0, .int .i64 0, .int .i64 0, .int .i64 0] 211)).rowOther (b' := w2.heap.size) (by omega) (mvA (.slice pv st.length qv) c.ca nth g home)
 have hR3 := (hR2.alloc (.cells #[.slice none 0 0, .int .i64 0, .int .i64 0, .int .i64 0, .int .i64 0, .int .i64 0, .int .i64 0, .int .i64 0, .int .i64 0, .int .i64 0, .int .i64 0, .int .i64 0, .int .i64 0, .int .i64 0] 211)).rowOther (b' := w2.heap.size) (by omega) (mvA (.slice pv st.length qv) c.ca nth g home)
 have hS3 := (hS2.alloc (.cells #[.slice none 0 0, .int .i64 0, .int .i64 0, .int .i64 0, .int .i64 0, .int .i64 0, .int .i64 0, .int .i64 0, .int .i64 0, .int .i64 0, .int .i64 0, .int .i64 0, .int .i64 0, .int .i64 0] 211)).rowOther (b' := w2.heap.size) (by omega) (mvA (.slice pv st.length qv) c.ca nth g home)
 have hM1 := BlockIs.new w2 #[.slice none 0 0, .int .i64 0, .int .i64 0, .int .i64 0, .int .i64 0, .int .i64 0, .int .i64 0, .int .i64 0, .int .i64 0, .int .i64 0, .int .i64 0, .int .i64 0, .int .i64 0, .int .i64 0] 211
 have hM3 := hM1.row (mvA (.slice pv st.length qv) c.ca nth g home)
 have HB3 := below_setRow (HB2.alloc HB2.size (.cells #[.slice none 0 0, .int .i64 0, .int .i64 0, .int .i64 0, .int .i64 0, .int .i64 0, .int .i64 0, .int .i64 0, .int .i64 0, .int .i64 0, .int .i64 0, .int .i64 0, .int .i64 0, .int .i64 0] 211)) HB2.size (mvA (.slice pv st.length qv) c.ca nth g home)
 have HM1 := Lib.hid hM1
 clear a37 a38 hrc HA HT HR HS HB1 hb2 hA2 hT2 hR2 hS2 HB2 hM1 hM
 go_wp2_with ((with_reducible show wpList _ _ _ _ _ _); refine ws_any 211 (.tmp 8) (.tmp 22) (mvA (.slice pv st.length qv) c.ca nth g home) w2.heap.size _ 211 ?_ ?_ ?_ ?_ HM1.out moves_info rfl (by simp [mvA, Value.oneCell']) ?_; rfl; rfl; rfl; rfl)
 obtain ⟨W, hW⟩ : ∃ W, (w2.alloc (.cells #[.slice none 0 0, .int .i64 0, .int .i64 0, .int .i64 0, .int .i64 0, .int .i64 0, .int .i64 0, .int .i64 0, .int .i64 0, .int .i64 0, .int .i64 0, .int .i64 0, .int .i64 0, .int .i64 0] 211)).setRow w2.heap.size (mvA (.slice pv st.length qv) c.ca nth g home) = W := ⟨_, rfl⟩
 have hWs : w2.heap.size < W.heap.size := by rw [← hW]; simp [World.setRow]
 rw [hW] at hA3 hT3 hR3 hS3 hM3 HB3 ⊢
 have hd := (Below.refl W.heap.size W).drew
 have HSS := Lib.hid (show ∀ W', Below W.heap.size W W' → BlockIs W' w.heap.size (auA c vs vw mode nth) 139 ∧ BlockIs W' w2.heap.size (mvA (.slice pv st.length qv) c.ca nth g home) 211 ∧ W'.cell? ⟨w.heap.size + 1, 0, none⟩ = some (.bool false) ∧ W'.cell? ⟨w.heap.size + 1, 1, none⟩ = some (.bool false) ∧ W'.cell? ⟨w.heap.size + 1, 2, none⟩ = some (.bool false) ∧ BlockIs W' (w.heap.size + 1) #[.bool false, .bool false, .bool false] 135 from fun W' h => ⟨hA3.kept h, hM3.kept h, (hT3.kept h).cell rfl, (hT3.kept h).cell rfl, (hT3.kept h).cell rfl, hT3.kept h⟩)
 have HRS := Lib.hid (show ∀ W', Below W.heap.size W W' → BlockIs W' (w.heap.size + 1 + 1) #[.int .i64 0, .int .i64 0, .int .i64 0, .int .i64 0, .int .i64 0, .int .i64 0, .int .i64 0] 85 ∧ BlockIs W' (w.heap.size + 1 + 1 + 1) #[.int .i64 0, .int .i64 0, .int .i64 0, .bool false] 89 ∧ Below w.heap.size w W' from fun W' h => ⟨hR3.kept h, hS3.kept h, HB3.trans (h.mono HB3.size)⟩)
 clear hA3 hM3 hT3 hR3 hS3 hW HM1
 refine wp_region_held_drew (S := fun W' => BlockIs W' w.heap.size (auA c vs vw mode nth) 139 ∧ BlockIs W' w2.heap.size (mvA (.slice pv st.length qv) c.ca nth g home) 211 ∧ W'.cell? ⟨w.heap.size + 1, 0, none⟩ = some (.bool false) ∧ W'.cell? ⟨w.heap.size + 1, 1, none⟩ = some (.bool false) ∧ W'.cell? ⟨w.heap.size + 1, 2, none⟩ = some (.bool false) ∧ BlockIs W' (w.heap.size + 1) #[.bool false, .bool false, .bool false] 135) (by kernel_rfl) (HSS.out _ hd) (fun hHeld => ?_)
 refine tkH 0 ?_
 try simp only [pt]
 refine tkH 1 ?_ (hy := by (intro w hSw; refine load_x 91 (.tmp 23) (grA g).toList _ 3 _ Tryz.underlying91 rfl gear_info ?_ ?_ w (block_sub hSw.2.1 3 10) <;> rfl))
 try simp only [pt]
 refine tkH 2 ?_
 try simp only [pt]
 refine tkH 3 ?_ (hy := by (intro w hSw; refine load_x 85 (.tmp 25) ca0 _ 40 _ Tryz.underlying85 rfl car_info ?_ ?_ w (block_sub hSw.1 40 7) <;> rfl))
 try simp only [pt]
 refine tkH 4 ?_ (hy := by (intro w hSw; refine load_x 139 (.tmp 2) (auA c vs vw mode nth).toList _ 0 _ Tryz.underlying139 rfl auto_info ?_ ?_ w (block_sub hSw.1 0 47) <;> rfl))
 try simp only [pt]
 refine tkH 5 ?_ (hy := by (intro w hSw; refine load_x 211 (.tmp 8) (mvA (.slice pv st.length qv) c.ca nth g home).toList _ 0 _ Tryz.underlying211 rfl moves_info ?_ ?_ w (block_sub hSw.2.1 0 14) <;> rfl))
 try simp only [pt]
 refine tkH 6 ?_
 try simp only [pt]
 refine tkH 7 ?_
 try simp only [pt]
 refine tkH 9 ?_
 try simp only [pt]
 refine tkH 10 ?_
 try simp only [pt]
 refine tkH 11 ?_
 try simp only [pt]
 refine tkH 12 ?_
 try simp only [pt]
 refine rdy [8] ?_
 refine' arC rfl (fun KK hKK => ?a8) AllReadyH.nil
 go_simp
 refine (atold_ok c vs vw (.slice pv st.length qv) mode nth home g _ h x0).mono ?_; rintro e w4 ⟨cmd, hcmd, rfl, hb4⟩; have hB4 := hd.trans (hb4.mono hd.size)
 refine hKK.out _ _ (HSS.out _ hB4) (fun _ => ?_)
 clear hKK KK
 try simp only [pt]
 refine tkH 13 ?_
 try simp only [pt]
 refine rdy [14] ?_
 refine' arC rfl (fun KK hKK => ?a14) AllReadyH.nil
 go_simp
 refine (carStep_ok g cmd _ hg hcmd).mono ?_; rintro e w5 ⟨f, d, p, l, m, rfl, hb5⟩; have hB5 := hB4.trans (hb5.mono hB4.size)
 refine hKK.out _ _ (HSS.out _ hB5) (fun _ => ?_)
 clear hKK KK
 try simp only [pt]
 refine tkH 15 ?_
 try simp only [pt]
 refine tkH 16 ?_
 try simp only [pt]
 refine tkH 17 ?_
 try simp only [pt]
 obtain ⟨hR5, hS5, HB5⟩ := HRS.out _ hB5
 obtain ⟨hA5, hM5, t0, t1, t2, hT5⟩ := HSS.out _ hB5
 have hS6 := hS5.rowOther (b' := w.heap.size + 1 + 1) (by omega) (caA f d p l)
 have K1 := hA5.rowOther (b' := w.heap.size + 1 + 1) (by omega) (caA f d p l)
 have K2 := hM5.rowOther (b' := w.heap.size + 1 + 1) (by omega) (caA f d p l)
 have K3 := hT5.rowOther (b' := w.heap.size + 1 + 1) (by omega) (caA f d p l)
 have L1 := K1.rowOther (b' := w.heap.size + 1 + 1 + 1) (by omega) (ouA m)
 have L2 := K2.rowOther (b' := w.heap.size + 1 + 1 + 1) (by omega) (ouA m)
 have L3 := K3.rowOther (b' := w.heap.size + 1 + 1 + 1) (by omega) (ouA m)
 refine rdy [18] ?_
 refine' arC rfl (fun KK hKK => ?a18) AllReadyH.nil
 refine wp_store_row 85 (.tmp 4) (.tmp 38) rfl (w.heap.size + 1 + 1) (caA f d p l) rfl rfl 85 _ hR5 car_info rfl (by simp [caA, Value.oneCell']) ?_
 refine hKK.out _ _ (⟨K1, K2, K3.cell rfl, K3.cell rfl, K3.cell rfl, K3⟩) (fun _ => ?_)
 clear hKK KK
 try simp only [pt]
 refine rdy [19] ?_
 refine' arC rfl (fun KK hKK => ?a19) AllReadyH.nil
 refine wp_store_row 89 (.tmp 5) (.tmp 39) rfl (w.heap.size + 1 + 1 + 1) (ouA m) rfl rfl 89 _ hS6 out_info rfl (by simp [ouA, Value.oneCell']) ?_
 refine hKK.out _ _ (⟨L1, L2, L3.cell rfl, L3.cell rfl, L3.cell rfl, L3⟩) (fun _ => ?_)
 clear hKK KK
 try simp only [pt]
 refine rdy [20] ?_
 refine' arC rfl (fun KK hKK => ?a20) AllReadyH.nil
 go_simp
 refine' hKK.out _ _ ?ah20 (fun _ => ?ar20)
 case ah20 => assumption
 clear hKK KK
 try simp only [pt]
 refine wpAnyH_done (by kernel_rfl) ?_ _
 have HR8 := Lib.hid ((hR5.row (caA f d p l)).rowOther (b' := w.heap.size + 1 + 1 + 1) (by omega) (ouA m))
 have HS8 := Lib.hid (hS6.row (ouA m))
 have HB9 := Lib.hid (below_setRow (below_setRow HB5 (by omega : w.heap.size ≤ w.heap.size + 1 + 1) (caA f d p l)) (by omega : w.heap.size ≤ w.heap.size + 1 + 1 + 1) (ouA m))
 clear hHeld HSS HRS hR5 hS5 HB5 hA5 hM5 t0 t1 t2 hT5 hS6 K1 K2 K3 L1 L2 L3 hB4 hB5 hb4 hb5 hd HB3
 go_wp2_with fail
 refine bodyPost_ret (res_cct (b := w.heap.size + 1 + 1) (c := w.heap.size + 1 + 1 + 1) rfl _ _ _ _ _ _ _ _ rfl HR8.out Tryz.underlying85 rfl car_info rfl HS8.out Tryz.underlying89 rfl out_info) rfl ⟨f, d, p, l, m, rfl, HB9.out⟩
end Go.Proofs.YtfnifgppblbjhaaGreatDoor
