/- Part of the proof of TopHoly. -/
import Derived.Test.YtfnifgppblbjhaaGreatDoorY08
import Derived.Test.YtfnifgppblbjhaaGreatDoorY09
import Derived.Test.YtfnifgppblbjhaaGreatDoorY10
import Derived.Test.YtfnifgppblbjhaaGreatDoorY12
import Derived.BigFrame
import Derived.Deep.AppendLies
import Derived.Laws.EntriesVeiled
import Derived.Laws.OwnMore
import Derived.Lib.SliceRun
import Derived.Lib.Walk
namespace Go.Proofs.YtfnifgppblbjhaaGreatDoor
set_option maxHeartbeats 8000000
open Go Go.RowKit
set_option linter.unusedVariables false
set_option linter.unusedSimpArgs false
theorem wn_info : (Tryz.prog.info? 35).map (·.size) = some 7 := by kernel_rfl
theorem cfg_info : (Tryz.prog.info? 33).map (·.size) = some 37 := by kernel_rfl
theorem load_wn {ops : Array Oper} {rest : List Oper} {op : Oper} {a : Act} {W : World} {Q : Exit → Act → World → Prop} (y : Operand) (x : Wn) (b o : Nat) (hgd : op.guard = none) (ho : op.op = .load 35 y)
  (hx : a.eval y = .pointer (some ⟨b, o, none⟩)) (hc : W.rangeAt b o (wnA x).toList) (h : wpList Tryz.prog ops Q rest (a.put op.dst (.agg (wnA x))) W) : wpList Tryz.prog ops Q (op :: rest) a W :=
 wpList_load_mid hgd 35 y ho b o hx (wnA x).toList _ hc Tryz.underlying35 rfl wn_info h
theorem load_cfg {ops : Array Oper} {rest : List Oper} {op : Oper} {a : Act} {W : World} {Q : Exit → Act → World → Prop} (y : Operand) (c : Cfg) (vs vw : Value) (b o : Nat) (hgd : op.guard = none) (ho : op.op = .load 33 y)
  (hx : a.eval y = .pointer (some ⟨b, o, none⟩)) (hc : W.rangeAt b o (cfgA c vs vw).toList) (h : wpList Tryz.prog ops Q rest (a.put op.dst (.agg (cfgA c vs vw))) W) : wpList Tryz.prog ops Q (op :: rest) a W :=
 wpList_load_mid hgd 33 y ho b o hx (cfgA c vs vw).toList _ hc Tryz.underlying33 rfl cfg_info h
theorem wn_range {w : World} {b : Nat} {x : Wn} {t : TypeId} (h : BlockIs w b (wnA x) t) : w.rangeAt b 0 (wnA x).toList := fun j v hv => by
 rw [Nat.zero_add]; exact h.cell (by simpa using hv)
theorem kWindow_ok (x : Wn) (w : World) (h : WnOk x) : Calls Tryz.prog 131 #[.agg (wnA x)] w fun e w' => e = .returned (.int .i64 0) ∧ Below w.heap.size w w' := by
 obtain ⟨m1, m2, p1, p2, s0, hk⟩ := h
 have hB := BlockIs.new w (wnA x) 35
 have c0 := hB.cell (i := 0) (v := .int .i64 x.k) rfl
 have c1 := hB.cell (i := 1) (v := .int .i64 x.m) rfl
 have c2 := hB.cell (i := 2) (v := .int .i64 x.p) rfl
 have c3 := hB.cell (i := 3) (v := .int .i64 x.a) rfl
 have c4 := hB.cell (i := 4) (v := .int .i64 x.s) rfl
 have c5 := hB.cell (i := 5) (v := .int .i64 x.mi) rfl
 have c6 := hB.cell (i := 6) (v := .int .i64 x.l) rfl
 have HB := Lib.hid ((Below.refl w.heap.size w).alloc (Nat.le_refl _) (.cells (wnA x) 35))
 clear hB
 rw [s0] at c4
 rcases hk with ⟨k1, ⟨t1, t2, t3, t4⟩, a1, a2⟩ | ⟨k4, a0, i1, i2, l1, l2⟩
 ·rw [k1] at c0
  clear k1 s0
  go_enter Tryz.func131, Tryz.ntmps131
  go_wp2_with (first | (go_at_call 125; refine (kwithin_yes _ _ _ _ (by omega) (by omega)).mono ?_; rintro e w' ⟨rfl, rfl⟩) | (go_at_call 125; refine (kwithin_any _ _ _ _).mono ?_; rintro e w' ⟨rfl, rfl⟩))
  go_ret
  exact ⟨rfl, HB.out⟩
 ·rw [k4] at c0
  rw [a0] at c3
  clear k4 s0 a0
  go_enter Tryz.func131, Tryz.ntmps131
  go_wp2_with (first | (go_at_call 125; refine (kwithin_yes _ _ _ _ (by omega) (by omega)).mono ?_; rintro e w' ⟨rfl, rfl⟩) | (go_at_call 125; refine (kwithin_any _ _ _ _).mono ?_; rintro e w' ⟨rfl, rfl⟩))
  all_goals
   go_ret
   exact ⟨rfl, HB.out⟩
theorem kodd_ok (x : Wn) (w : World) (h : WnOk x) : Calls Tryz.prog 130 #[.agg (wnA x)] w fun e w' => e = .returned (.bool false) ∧ Below w.heap.size w w' := by
 have hr := wn_range (BlockIs.new w (wnA x) 35)
 have HB := (Below.refl w.heap.size w).alloc (Nat.le_refl _) (.cells (wnA x) 35)
 go_enter Tryz.func130, Tryz.ntmps130
 go_wp2_with (with_reducible show wpList _ _ _ _ _ _; refine load_wn (.tmp 1) x w.heap.size 0 rfl rfl rfl hr ?_)
 refine (kWindow_ok x _ h).mono ?_; rintro e w1 ⟨rfl, hb1⟩
 have HB1 := Lib.hid (HB.trans (hb1.mono HB.size))
 clear hb1 HB hr
 go_wp2_with fail
 go_ret
 exact ⟨rfl, HB1.out⟩
theorem kindex_ok (x : Wn) (vw : Value) (w : World) (h : WnOk x) (hv : Rd w vw 1 (wnA x).toList) :
  Calls Tryz.prog 190 #[vw, .func (.func 130) #[] #[]] w fun e w' => e = .returned (.int .i64 (-1)) ∧ Below w.heap.size w w' := by
 obtain ⟨b, o, c, rfl, hc, hr⟩ := hv.some (by omega)
 clear hv
 go_enter Tryz.func190, Tryz.ntmps190
 go_wp2_with fail
 go_loopw [5, 8] (fun _ idx wr => ∃ k : Int, (k = 0 ∨ k = 1) ∧ idx = .int .i64 k ∧ (k = 0 → w = wr) ∧ Below w.heap.size w wr) (fun _ i _ => (1 - intOf i).toNat)
 case atStart => exact ⟨0, .inl rfl, rfl, fun _ => rfl, Below.refl _ _⟩
 case round =>
  obtain ⟨k, hk | hk, rfl, hw, hB⟩ := hrel
  ·subst hk
   obtain rfl := hw rfl
   go_wp2_with (with_reducible show wpList _ _ _ _ _ _; refine load_wn (.tmp 14) x b o rfl rfl rfl hr ?_)
   refine (kodd_ok x _ h).mono ?_; rintro e w1 ⟨rfl, hb1⟩
   clear hr hw
   go_wp2_with fail
   go_round
   case rel => exact ⟨1, .inr rfl, rfl, fun h => by omega, hb1⟩
   case measure => simp [intOf]
  ·subst hk
   clear hw hr
   go_wp2_with fail
   go_ret
   exact ⟨rfl, hB⟩
theorem kcontains_ok (x : Wn) (vw : Value) (w : World) (h : WnOk x) (hv : Rd w vw 1 (wnA x).toList) :
  Calls Tryz.prog 132 #[vw, .func (.func 130) #[] #[]] w fun e w' => e = .returned (.bool false) ∧ Below w.heap.size w w' := by
 go_enter Tryz.func132, Tryz.ntmps132
 go_wp2_with fail
 refine (kindex_ok x vw _ h hv).mono ?_; rintro e w1 ⟨rfl, hb1⟩
 clear hv
 go_wp2_with fail
 go_ret
 exact ⟨rfl, hb1⟩
theorem kwindows_ok (c : Cfg) (vs vw : Value) (w : World) (h : CfgOk c) (hm : CfgM w c vs vw) : Calls Tryz.prog 74 #[.agg (cfgA c vs vw)] w fun e w' => e = .returned (.int .i64 0) ∧ Below w.heap.size w w' := by
 have hw := hm.w
 have h1 := h.w
 obtain ⟨p, q, rfl⟩ := hw.form
 have hB := BlockIs.new w (cfgA c vs (.slice p 1 q)) 33
 have c36 := hB.cell (i := 36) (v := .slice p 1 q) rfl
 have HB := (Below.refl w.heap.size w).alloc (Nat.le_refl _) (.cells (cfgA c vs (.slice p 1 q)) 33)
 have hw1 := hw.below HB
 have H1 := Lib.hid h1
 clear hB h hm hw h1
 have HW1 := Lib.hid hw1
 clear hw1
 go_enter Tryz.func74, Tryz.ntmps74
 go_wp2_with fail
 refine (kcontains_ok c.w _ _ H1.out HW1.out).mono ?_; rintro e w1 ⟨rfl, hb1⟩
 have HB1 := Lib.hid (HB.trans (hb1.mono HB.size))
 clear hb1 HB HW1
 go_wp2_with (go_at_call 124; refine (kmust_yes _ _).mono ?_; rintro e w' ⟨rfl, rfl⟩)
 go_ret
 exact ⟨rfl, HB1.out⟩
theorem sub_range {W : World} {b o : Nat} {l : List Value} (k n : Nat) (h : W.rangeAt b o l) : W.rangeAt b (o + k) ((l.drop k).take n) := fun j v hv => by
 have hj : (l.drop k)[j]? = some v := by
  rw [List.getElem?_take] at hv
  split at hv
  ·exact hv
  ·cases hv
 rw [List.getElem?_drop] at hj
 rw [Nat.add_assoc]
 exact h (k + j) v hj
def zoneA (z : Zn) : Array Value := #[.int .i64 z.b, .int .i64 z.s, .int .i64 z.m, .int .i64 z.k, .int .i64 z.d, .int .i64 z.t, .int .i64 z.m', .int .i64 z.k', .int .i64 z.d', .int .i64 z.t']
theorem cfg_zone {w : World} {b o : Nat} {c : Cfg} {vs vw : Value} (h : w.rangeAt b o (cfgA c vs vw).toList) : w.rangeAt b (o + 13) (zoneA c.z).toList := sub_range 13 10 h
theorem cfg_sun {w : World} {b o : Nat} {c : Cfg} {vs vw : Value} (h : w.rangeAt b o (cfgA c vs vw).toList) : w.rangeAt b (o + 23) (sunArr c.f).toList := sub_range 23 12 h
theorem zone_info : (Tryz.prog.info? 28).map (·.size) = some 10 := by kernel_rfl
theorem sun_info : (Tryz.prog.info? 30).map (·.size) = some 12 := by kernel_rfl
theorem load_zone {ops : Array Oper} {rest : List Oper} {op : Oper} {a : Act} {W : World} {Q : Exit → Act → World → Prop} (y : Operand) (z : Zn) (b o : Nat) (hgd : op.guard = none) (ho : op.op = .load 28 y)
  (hx : a.eval y = .pointer (some ⟨b, o, none⟩)) (hc : W.rangeAt b o (zoneA z).toList) (h : wpList Tryz.prog ops Q rest (a.put op.dst (.agg (zoneA z))) W) : wpList Tryz.prog ops Q (op :: rest) a W :=
 wpList_load_mid hgd 28 y ho b o hx (zoneA z).toList _ hc Tryz.underlying28 rfl zone_info h
theorem load_sun {ops : Array Oper} {rest : List Oper} {op : Oper} {a : Act} {W : World} {Q : Exit → Act → World → Prop} (y : Operand) (f : Nat → Int) (b o : Nat) (hgd : op.guard = none) (ho : op.op = .load 30 y)
  (hx : a.eval y = .pointer (some ⟨b, o, none⟩)) (hc : W.rangeAt b o (sunArr f).toList) (h : wpList Tryz.prog ops Q rest (a.put op.dst (.agg (sunArr f))) W) : wpList Tryz.prog ops Q (op :: rest) a W :=
 wpList_load_mid hgd 30 y ho b o hx (sunArr f).toList _ hc Tryz.underlying30 rfl sun_info h
theorem zcheck_z (z : Zn) (w : World) (h : zErr z = 0) : Calls Tryz.prog 71 #[.agg (zoneA z)] w fun e w' => e = .returned (.int .i64 0) ∧ Below w.heap.size w w' := zcheck_any z.b z.s z.m z.k z.d z.t z.m' z.k' z.d' z.t' 0 w h
theorem sun_i64 {f : Nat → Int} (h : sunErr f = 0) : SunIn f ∧ SunBy f ∧ ∀ i, i < 12 → I64 (f i) := by
 rcases sunErr_cases f with ⟨_, a, b⟩ | e | e
 ·exact ⟨a, b, fun i hi => by have := a i hi; unfold I64; omega⟩
 ·omega
 ·omega
theorem kzone_ok (c : Cfg) (vs vw : Value) (w : World) (h : CfgOk c) : Calls Tryz.prog 70 #[.agg (cfgA c vs vw)] w fun e w' => e = .returned (.int .i64 0) ∧ Below w.heap.size w w' := by
 have hz := h.z
 have hr := cfg_zone (cfg_range (BlockIs.new w (cfgA c vs vw) 33))
 rw [Nat.zero_add] at hr
 have HB := (Below.refl w.heap.size w).alloc (Nat.le_refl _) (.cells (cfgA c vs vw) 33)
 have HZ := Lib.hid hz
 clear h hz
 go_enter Tryz.func70, Tryz.ntmps70
 go_wp2_with (with_reducible show wpList _ _ _ _ _ _; refine load_zone (.tmp 3) c.z w.heap.size 13 rfl rfl rfl hr ?_)
 refine (zcheck_z c.z _ HZ.out).mono ?_; rintro e w1 ⟨rfl, hb1⟩
 have HB1 := Lib.hid (HB.trans (hb1.mono HB.size))
 clear hb1 HB hr
 go_wp2_with fail
 go_ret
 exact ⟨rfl, HB1.out⟩
theorem ksun_ok (c : Cfg) (vs vw : Value) (w : World) (h : CfgOk c) : Calls Tryz.prog 72 #[.agg (cfgA c vs vw)] w fun e w' => e = .returned (.int .i64 0) ∧ Below w.heap.size w w' := by
 have hz := h.f
 have hr := cfg_sun (cfg_range (BlockIs.new w (cfgA c vs vw) 33))
 rw [Nat.zero_add] at hr
 have HB := (Below.refl w.heap.size w).alloc (Nat.le_refl _) (.cells (cfgA c vs vw) 33)
 have HI := Lib.hid (sun_i64 hz).2.2
 have HZ := Lib.hid hz
 clear h hz
 go_enter Tryz.func72, Tryz.ntmps72
 go_wp2_with (with_reducible show wpList _ _ _ _ _ _; refine load_sun (.tmp 3) c.f w.heap.size 23 rfl rfl rfl hr ?_)
 refine (scheck_any c.f 0 _ HZ.out HI.out).mono ?_; rintro e w1 ⟨rfl, hb1⟩
 have HB1 := Lib.hid (HB.trans (hb1.mono HB.size))
 clear hb1 HB hr
 go_wp2_with fail
 go_ret
 exact ⟨rfl, HB1.out⟩
def rulesA : Array Value := #[.func (.func 67) #[] #[], .func (.func 68) #[] #[], .func (.func 69) #[] #[], .func (.func 70) #[] #[], .func (.func 72) #[] #[], .func (.func 74) #[] #[]]
theorem kCheck_ok (c : Cfg) (vs vw : Value) (w : World) (h : CfgOk c) (hm : CfgM w c vs vw) : Calls Tryz.prog 34 #[.agg (cfgA c vs vw)] w fun e w' => e = .returned (.int .i64 0) ∧ Below w.heap.size w w' := by
 have hB1 := (BlockIs.new w (cfgA c vs vw) 33).alloc (.cells rulesA 156)
 have hR1 := BlockIs.new (w.alloc (.cells (cfgA c vs vw) 33)) rulesA 156
 have HB := ((Below.refl w.heap.size w).alloc (Nat.le_refl _) (.cells (cfgA c vs vw) 33)).alloc (by simp) (.cells rulesA 156)
 rw [World.size_alloc] at hR1
 have H := Lib.hid h
 have HM := Lib.hid hm
 have HB := Lib.hid HB
 have HR1 := Lib.hid hR1
 have HB1 := Lib.hid hB1
 clear h hm hR1 hB1
 go_enter Tryz.func34, Tryz.ntmps34
 go_wp2_with fail
 go_step3
 go_wp2_with fail
 refine wp_label ?_
 go_wp2_with fail
 go_loopw [4, 6, 16] (fun ev _ iv wr => ∃ k : Nat, k ≤ 6 ∧ ev = .int .i64 0 ∧ iv = .int .i64 (k : Int) ∧ Hid (BlockIs wr w.heap.size (cfgA c vs vw) 33) ∧ Hid (BlockIs wr (w.heap.size + 1) rulesA 156) ∧ Hid (Below w.heap.size w wr)) (fun _ _ iv _ => (6 - intOf iv).toNat)
 case atStart => exact ⟨0, by omega, rfl, rfl, HB1, HR1, HB⟩
 case round =>
  clear HB1 HR1 HB
  obtain ⟨k, hk, rfl, rfl, kb, kr, kB⟩ := hrel
  have hkc : k = 6 ∨ k < 6 := by omega
  rcases hkc with e | hlt6
  ·subst e
   have hd : decide ((6 : Nat) < 6) = false := by decide
   have hB := kB.out
   rw [show (((6 : Nat)) : Int) = 6 from rfl]
   go_wp2_with fail
   rw [Exit.noGoto_ret]
   go_ret
   exact ⟨rfl, hB⟩
  have hlt : decide (k < 6) = true := by simpa using hlt6
  rcases (show k = 0 ∨ k = 1 ∨ k = 2 ∨ k = 3 ∨ k = 4 ∨ k = 5 by omega) with e | e | e | e | e | e
  ·have hcell : wr.cell? ⟨w.heap.size + 1, k, none⟩ = some (.func (.func 67) #[] #[]) := by rw [e]; exact kr.out.cell rfl
   have hB := kB.out
   have hr := cfg_range (kb.out.alloc (.cells #[.func (.func 67) #[] #[]] 156))
   have HB2 := hB.alloc hB.size (.cells #[.func (.func 67) #[] #[]] 156)
   have hm2 := HM.out.below HB2
   have kb2 := Lib.hid (kb.out.alloc (.cells #[.func (.func 67) #[] #[]] 156))
   have kr2 := Lib.hid (kr.out.alloc (.cells #[.func (.func 67) #[] #[]] 156))
   have hC := ksize_ok c vs vw (wr.alloc (.cells #[.func (.func 67) #[] #[]] 156)) H.out
   have HC := Lib.hid hC
   clear hC hm2 e hB
   go_wp2_with (with_reducible show wpList _ _ _ _ _ _; refine load_cfg (.tmp 1) c vs vw w.heap.size 0 rfl rfl rfl hr ?_)
   refine HC.out.mono ?_; rintro e w1 ⟨rfl, hb1⟩
   have HB3 := Lib.hid (HB2.trans (hb1.mono HB2.size))
   have kb3 := Lib.hid (kb2.out.kept hb1)
   have kr3 := Lib.hid (kr2.out.kept hb1)
   clear hb1 HB2 hr HC
   go_wp2_with fail
   go_round
   case rel => exact ⟨k + 1, by omega, rfl, by go_num, kb3, kr3, HB3⟩
   case measure => simp [intOf]; omega
  ·have hcell : wr.cell? ⟨w.heap.size + 1, k, none⟩ = some (.func (.func 68) #[] #[]) := by rw [e]; exact kr.out.cell rfl
   have hB := kB.out
   have hr := cfg_range (kb.out.alloc (.cells #[.func (.func 68) #[] #[]] 156))
   have HB2 := hB.alloc hB.size (.cells #[.func (.func 68) #[] #[]] 156)
   have hm2 := HM.out.below HB2
   have kb2 := Lib.hid (kb.out.alloc (.cells #[.func (.func 68) #[] #[]] 156))
   have kr2 := Lib.hid (kr.out.alloc (.cells #[.func (.func 68) #[] #[]] 156))
   have hC := kstops_ok c vs vw (wr.alloc (.cells #[.func (.func 68) #[] #[]] 156)) H.out hm2
   have HC := Lib.hid hC
   clear hC hm2 e hB
   go_wp2_with (with_reducible show wpList _ _ _ _ _ _; refine load_cfg (.tmp 1) c vs vw w.heap.size 0 rfl rfl rfl hr ?_)
   refine HC.out.mono ?_; rintro e w1 ⟨rfl, hb1⟩
   have HB3 := Lib.hid (HB2.trans (hb1.mono HB2.size))
   have kb3 := Lib.hid (kb2.out.kept hb1)
   have kr3 := Lib.hid (kr2.out.kept hb1)
   clear hb1 HB2 hr HC
   go_wp2_with fail
   go_round
   case rel => exact ⟨k + 1, by omega, rfl, by go_num, kb3, kr3, HB3⟩
   case measure => simp [intOf]; omega
  ·have hcell : wr.cell? ⟨w.heap.size + 1, k, none⟩ = some (.func (.func 69) #[] #[]) := by rw [e]; exact kr.out.cell rfl
   have hB := kB.out
   have hr := cfg_range (kb.out.alloc (.cells #[.func (.func 69) #[] #[]] 156))
   have HB2 := hB.alloc hB.size (.cells #[.func (.func 69) #[] #[]] 156)
   have hm2 := HM.out.below HB2
   have kb2 := Lib.hid (kb.out.alloc (.cells #[.func (.func 69) #[] #[]] 156))
   have kr2 := Lib.hid (kr.out.alloc (.cells #[.func (.func 69) #[] #[]] 156))
   have hC := ktimes_ok c vs vw (wr.alloc (.cells #[.func (.func 69) #[] #[]] 156)) H.out
   have HC := Lib.hid hC
   clear hC hm2 e hB
   go_wp2_with (with_reducible show wpList _ _ _ _ _ _; refine load_cfg (.tmp 1) c vs vw w.heap.size 0 rfl rfl rfl hr ?_)
   refine HC.out.mono ?_; rintro e w1 ⟨rfl, hb1⟩
   have HB3 := Lib.hid (HB2.trans (hb1.mono HB2.size))
   have kb3 := Lib.hid (kb2.out.kept hb1)
   have kr3 := Lib.hid (kr2.out.kept hb1)
   clear hb1 HB2 hr HC
   go_wp2_with fail
   go_round
   case rel => exact ⟨k + 1, by omega, rfl, by go_num, kb3, kr3, HB3⟩
   case measure => simp [intOf]; omega
  ·have hcell : wr.cell? ⟨w.heap.size + 1, k, none⟩ = some (.func (.func 70) #[] #[]) := by rw [e]; exact kr.out.cell rfl
   have hB := kB.out
   have hr := cfg_range (kb.out.alloc (.cells #[.func (.func 70) #[] #[]] 156))
   have HB2 := hB.alloc hB.size (.cells #[.func (.func 70) #[] #[]] 156)
   have hm2 := HM.out.below HB2
   have kb2 := Lib.hid (kb.out.alloc (.cells #[.func (.func 70) #[] #[]] 156))
   have kr2 := Lib.hid (kr.out.alloc (.cells #[.func (.func 70) #[] #[]] 156))
   have hC := kzone_ok c vs vw (wr.alloc (.cells #[.func (.func 70) #[] #[]] 156)) H.out
   have HC := Lib.hid hC
   clear hC hm2 e hB
   go_wp2_with (with_reducible show wpList _ _ _ _ _ _; refine load_cfg (.tmp 1) c vs vw w.heap.size 0 rfl rfl rfl hr ?_)
   refine HC.out.mono ?_; rintro e w1 ⟨rfl, hb1⟩
   have HB3 := Lib.hid (HB2.trans (hb1.mono HB2.size))
   have kb3 := Lib.hid (kb2.out.kept hb1)
   have kr3 := Lib.hid (kr2.out.kept hb1)
   clear hb1 HB2 hr HC
   go_wp2_with fail
   go_round
   case rel => exact ⟨k + 1, by omega, rfl, by go_num, kb3, kr3, HB3⟩
   case measure => simp [intOf]; omega
  ·have hcell : wr.cell? ⟨w.heap.size + 1, k, none⟩ = some (.func (.func 72) #[] #[]) := by rw [e]; exact kr.out.cell rfl
   have hB := kB.out
   have hr := cfg_range (kb.out.alloc (.cells #[.func (.func 72) #[] #[]] 156))
   have HB2 := hB.alloc hB.size (.cells #[.func (.func 72) #[] #[]] 156)
   have hm2 := HM.out.below HB2
   have kb2 := Lib.hid (kb.out.alloc (.cells #[.func (.func 72) #[] #[]] 156))
   have kr2 := Lib.hid (kr.out.alloc (.cells #[.func (.func 72) #[] #[]] 156))
   have hC := ksun_ok c vs vw (wr.alloc (.cells #[.func (.func 72) #[] #[]] 156)) H.out
   have HC := Lib.hid hC
   clear hC hm2 e hB
   go_wp2_with (with_reducible show wpList _ _ _ _ _ _; refine load_cfg (.tmp 1) c vs vw w.heap.size 0 rfl rfl rfl hr ?_)
   refine HC.out.mono ?_; rintro e w1 ⟨rfl, hb1⟩
   have HB3 := Lib.hid (HB2.trans (hb1.mono HB2.size))
   have kb3 := Lib.hid (kb2.out.kept hb1)
   have kr3 := Lib.hid (kr2.out.kept hb1)
   clear hb1 HB2 hr HC
   go_wp2_with fail
   go_round
   case rel => exact ⟨k + 1, by omega, rfl, by go_num, kb3, kr3, HB3⟩
   case measure => simp [intOf]; omega
  ·have hcell : wr.cell? ⟨w.heap.size + 1, k, none⟩ = some (.func (.func 74) #[] #[]) := by rw [e]; exact kr.out.cell rfl
   have hB := kB.out
   have hr := cfg_range (kb.out.alloc (.cells #[.func (.func 74) #[] #[]] 156))
   have HB2 := hB.alloc hB.size (.cells #[.func (.func 74) #[] #[]] 156)
   have hm2 := HM.out.below HB2
   have kb2 := Lib.hid (kb.out.alloc (.cells #[.func (.func 74) #[] #[]] 156))
   have kr2 := Lib.hid (kr.out.alloc (.cells #[.func (.func 74) #[] #[]] 156))
   have hC := kwindows_ok c vs vw (wr.alloc (.cells #[.func (.func 74) #[] #[]] 156)) H.out hm2
   have HC := Lib.hid hC
   clear hC hm2 e hB
   go_wp2_with (with_reducible show wpList _ _ _ _ _ _; refine load_cfg (.tmp 1) c vs vw w.heap.size 0 rfl rfl rfl hr ?_)
   refine HC.out.mono ?_; rintro e w1 ⟨rfl, hb1⟩
   have HB3 := Lib.hid (HB2.trans (hb1.mono HB2.size))
   have kb3 := Lib.hid (kb2.out.kept hb1)
   have kr3 := Lib.hid (kr2.out.kept hb1)
   clear hb1 HB2 hr HC
   go_wp2_with fail
   go_round
   case rel => exact ⟨k + 1, by omega, rfl, by go_num, kb3, kr3, HB3⟩
   case measure => simp [intOf]; omega
theorem wl_cfg {ops : Array Oper} {rest : List Oper} {op : Oper} {a : Act} {W : World} {Q : Exit → Act → World → Prop} (y : Operand) (c : Cfg) (vs vw : Value) (b o : Nat) (ho : op.op = .load 33 y) (hw : Region.wanted op (yielded ops a.tmps) = true)
  (hx : a.eval y = .pointer (some ⟨b, o, none⟩)) (hc : W.rangeAt b o (cfgA c vs vw).toList) (h : wpList Tryz.prog ops Q rest (a.put op.dst (.agg (cfgA c vs vw))) W) : wpList Tryz.prog ops Q (op :: rest) a W :=
 BigFrame.wpList_want hw fun K hK => wp_load_mid 33 y ho b o hx (cfgA c vs vw).toList _ hc Tryz.underlying33 rfl cfg_info (hK _ _ h)
theorem kFits_ok (c : Cfg) (vs vw vs' vw' : Value) (w : World) (h : CfgOk c) (hm : CfgM w c vs vw) (hm' : CfgM w c vs' vw') : Calls Tryz.prog 46 #[.agg (cfgA c vs vw), .agg (cfgA c vs' vw')] w fun e w' => e = .returned (.bool true) ∧ Below w.heap.size w w' := by
 have b1 := (BlockIs.new w (cfgA c vs vw) 33).alloc (.cells (cfgA c vs' vw') 33)
 have b2 := BlockIs.new (w.alloc (.cells (cfgA c vs vw) 33)) (cfgA c vs' vw') 33
 have HB := ((Below.refl w.heap.size w).alloc (Nat.le_refl _) (.cells (cfgA c vs vw) 33)).alloc (by simp) (.cells (cfgA c vs' vw') 33)
 rw [World.size_alloc] at b2
 have hr := cfg_range b1
 have hm1 := hm.below HB
 have hm2 := hm'.below HB
 have B1 := Lib.hid b1
 have B2 := Lib.hid b2
 have HM1 := Lib.hid hm1
 have HM2 := Lib.hid hm2
 clear b1 b2 hm hm' hm1 hm2
 go_enter Tryz.func46, Tryz.ntmps46
 go_wp2_with (with_reducible show wpList _ _ _ _ _ _; refine wl_cfg (.tmp 2) c vs vw w.heap.size 0 rfl rfl rfl hr ?_)
 refine (kCheck_ok c vs vw _ h HM1.out).mono ?_; rintro e w1 ⟨rfl, hb1⟩
 have HB1 := HB.trans (hb1.mono HB.size)
 have hr1 := cfg_range (B2.out.kept hb1)
 have B1' := Lib.hid (B1.out.kept hb1)
 have B2' := Lib.hid (B2.out.kept hb1)
 have HM := Lib.hid (HM2.out.below hb1)
 clear hr hb1 HB HM1 HM2 B1 B2
 go_wp2_with (with_reducible show wpList _ _ _ _ _ _; refine wl_cfg (.tmp 3) c vs' vw' (w.heap.size + 1) 0 rfl rfl rfl hr1 ?_)
 refine (kCheck_ok c vs' vw' _ h HM.out).mono ?_; rintro e w2 ⟨rfl, hb2⟩
 have HB2 := Lib.hid (HB1.trans (hb2.mono HB1.size))
 have b1 := B1'.out.kept hb2
 have b2 := B2'.out.kept hb2
 have x0 := b1.cell (i := 0) (v := .int .i64 c.fl) rfl
 have x1 := b1.cell (i := 1) (v := .int .i64 c.ca) rfl
 have y0 := b2.cell (i := 0) (v := .int .i64 c.fl) rfl
 have y1 := b2.cell (i := 1) (v := .int .i64 c.ca) rfl
 clear b1 b2 hr1 HB1 HM hb2
 go_wp2_with fail
 go_ret
 exact ⟨rfl, HB2.out⟩
theorem wn_info3 : (Tryz.prog.info? 35).map (fun i => (i.zero, i.size, i.bytes)) = some (some (.agg #[.int .i64 0, .int .i64 0, .int .i64 0, .int .i64 0, .int .i64 0, .int .i64 0, .int .i64 0]), 7, 56) := by kernel_rfl
theorem clone_int (v : Value) (n : Nat) (cs : List Value) (w : World) (hv : Rd w v n cs) (hl : cs.length = n * 1) (hn : n < 1000000) (h1 : ∀ u ∈ cs, u.oneCell' = true) :
  Calls Tryz.prog 75 #[v] w fun e w' => ∃ v', e = .returned v' ∧ w'.ownsRow w.heap.size 3 1 v' n cs ∧ Below w.heap.size w w' := by
 obtain ⟨i0, hi, hz0, hz1, hz2⟩ := info_hid int_info
 have q22 : ∀ (w : World) (a : Option Addr) (n c n' c' : Nat), (binOp .eql 22 (.slice a n c) (.slice none n' c')).run Tryz.prog w = .ok (.bool a.isNone) w := fun w a n c n' c' => Lib.run_eql_slice_nil w _ _ a n c n' c' Tryz.underlying22
 have hc : ∀ p c, v = .slice p n c → ∀ ad, p = some ad → ∀ j u, cs[j]? = some u → w.cell? (ad.add j) = some u := by
  intro p c e ad ea j u hj
  rcases hv with ⟨h0, hcs, _⟩ | ⟨_, b, o, c', e', _, hr⟩
  ·subst hcs; simp at hj
  ·rw [e] at e'; cases e'; cases ea
   rw [Addr.add_mid]; exact hr j u hj
 obtain ⟨p, c, rfl⟩ := hv.form
 have hz : p = none → n = 0 := by
  intro e
  rcases hv with ⟨h0, _⟩ | ⟨_, b, o, c', e', _, _⟩
  ·exact h0
  ·rw [e] at e'; cases e'
 clear hv
 cases p with
 | none =>
  have h0 := hz rfl
  subst h0
  have e : cs = [] := List.eq_nil_of_length_eq_zero (by omega)
  subst e
  clear hc hz
  go_enter Tryz.func75, Tryz.ntmps75
  go_wp2
  go_ret
  exact ⟨_, rfl, World.ownsRow_nil _ _ _ _, Below.refl _ _⟩
 | some ad =>
  have hcc := hc _ _ rfl ad rfl
  have HC := Lib.hid hcc
  clear hc hz hcc
  go_enter Tryz.func75, Tryz.ntmps75
  go_wp2_with (first | (at_builtin; refine wpList_append_own _ rfl (.tmp 5) (.tmp 6) 22 rfl w.heap.size 3 i0 (.int .i64 0) 1 8 Tryz.underlying22 (hi ()) hz0 hz1 hz2 rfl (by decide) _ _ _ rfl (World.ownsRow_made w #[] 0 (Nat.le_refl _) (Nat.zero_le _) (by simp)) ad n c cs rfl hl (fun j u hu => Lib.cell?_alloc_some _ (HC.out j u hu)) h1 (by rw [Nat.zero_add]; unfold maxLen; omega) (by rw [Nat.zero_add]; omega) (by simp) ?_))
  intro v' w1 hown hgrow hnil
  have hB := ((Below.refl _ w).alloc (Nat.le_refl _) (.cells #[] 3)).grown hgrow (by simp) (by intro k hk; simp [Value.ownBlock] at hk; omega)
  have HO := Lib.hid hown
  clear hown hgrow hnil
  go_wp2_with fail
  go_ret
  exact ⟨_, rfl, by simpa using HO.out, hB⟩
theorem clone_wn (v : Value) (n : Nat) (cs : List Value) (w : World) (hv : Rd w v n cs) (hl : cs.length = n * 7) (hn : n < 1000000) (h1 : ∀ u ∈ cs, u.oneCell' = true) :
  Calls Tryz.prog 76 #[v] w fun e w' => ∃ v', e = .returned v' ∧ w'.ownsRow w.heap.size 35 7 v' n cs ∧ Below w.heap.size w w' := by
 obtain ⟨i0, hi, hz0, hz1, hz2⟩ := info_hid wn_info3
 have q22 : ∀ (w : World) (a : Option Addr) (n c n' c' : Nat), (binOp .eql 31 (.slice a n c) (.slice none n' c')).run Tryz.prog w = .ok (.bool a.isNone) w := fun w a n c n' c' => Lib.run_eql_slice_nil w _ _ a n c n' c' Tryz.underlying31
 have hc : ∀ p c, v = .slice p n c → ∀ ad, p = some ad → ∀ j u, cs[j]? = some u → w.cell? (ad.add j) = some u := by
  intro p c e ad ea j u hj
  rcases hv with ⟨h0, hcs, _⟩ | ⟨_, b, o, c', e', _, hr⟩
  ·subst hcs; simp at hj
  ·rw [e] at e'; cases e'; cases ea
   rw [Addr.add_mid]; exact hr j u hj
 obtain ⟨p, c, rfl⟩ := hv.form
 have hz : p = none → n = 0 := by
  intro e
  rcases hv with ⟨h0, _⟩ | ⟨_, b, o, c', e', _, _⟩
  ·exact h0
  ·rw [e] at e'; cases e'
 clear hv
 cases p with
 | none =>
  have h0 := hz rfl
  subst h0
  have e : cs = [] := List.eq_nil_of_length_eq_zero (by omega)
  subst e
  clear hc hz
  go_enter Tryz.func76, Tryz.ntmps76
  go_wp2
  go_ret
  exact ⟨_, rfl, World.ownsRow_nil _ _ _ _, Below.refl _ _⟩
 | some ad =>
  have hcc := hc _ _ rfl ad rfl
  have HC := Lib.hid hcc
  clear hc hz hcc
  go_enter Tryz.func76, Tryz.ntmps76
  go_wp2_with (first | (at_builtin; refine wpList_append_own _ rfl (.tmp 5) (.tmp 6) 31 rfl w.heap.size 35 i0 (.agg #[.int .i64 0, .int .i64 0, .int .i64 0, .int .i64 0, .int .i64 0, .int .i64 0, .int .i64 0]) 7 56 Tryz.underlying31 (hi ()) hz0 hz1 hz2 rfl (by decide) _ _ _ rfl (World.ownsRow_made w #[] 0 (Nat.le_refl _) (Nat.zero_le _) (by simp)) ad n c cs rfl hl (fun j u hu => Lib.cell?_alloc_some _ (HC.out j u hu)) h1 (by rw [Nat.zero_add]; unfold maxLen; omega) (by rw [Nat.zero_add]; omega) (by simp) ?_))
  intro v' w1 hown hgrow hnil
  have hB := ((Below.refl _ w).alloc (Nat.le_refl _) (.cells #[] 35)).grown hgrow (by simp) (by intro k hk; simp [Value.ownBlock] at hk; omega)
  have HO := Lib.hid hown
  clear hown hgrow hnil
  go_wp2_with fail
  go_ret
  exact ⟨_, rfl, by simpa using HO.out, hB⟩
theorem clone_bytes (v : Value) (n : Nat) (cs : List Value) (w : World) (hv : Rd w v n cs) (hl : cs.length = n * 1) (hn : n < 1000000) (h1 : ∀ u ∈ cs, u.oneCell' = true) :
  Calls Tryz.prog 36 #[v] w fun e w' => ∃ v', e = .returned v' ∧ w'.ownsRow w.heap.size 5 1 v' n cs ∧ Below w.heap.size w w' := by
 obtain ⟨i0, hi, hz0, hz1, hz2⟩ := info_hid byte_info
 have q22 : ∀ (w : World) (a : Option Addr) (n c n' c' : Nat), (binOp .eql 52 (.slice a n c) (.slice none n' c')).run Tryz.prog w = .ok (.bool a.isNone) w := fun w a n c n' c' => Lib.run_eql_slice_nil w _ _ a n c n' c' Tryz.underlying52
 have hc : ∀ p c, v = .slice p n c → ∀ ad, p = some ad → ∀ j u, cs[j]? = some u → w.cell? (ad.add j) = some u := by
  intro p c e ad ea j u hj
  rcases hv with ⟨h0, hcs, _⟩ | ⟨_, b, o, c', e', _, hr⟩
  ·subst hcs; simp at hj
  ·rw [e] at e'; cases e'; cases ea
   rw [Addr.add_mid]; exact hr j u hj
 obtain ⟨p, c, rfl⟩ := hv.form
 have hz : p = none → n = 0 := by
  intro e
  rcases hv with ⟨h0, _⟩ | ⟨_, b, o, c', e', _, _⟩
  ·exact h0
  ·rw [e] at e'; cases e'
 clear hv
 cases p with
 | none =>
  have h0 := hz rfl
  subst h0
  have e : cs = [] := List.eq_nil_of_length_eq_zero (by omega)
  subst e
  clear hc hz
  go_enter Tryz.func36, Tryz.ntmps36
  go_wp2
  go_ret
  exact ⟨_, rfl, World.ownsRow_nil _ _ _ _, Below.refl _ _⟩
 | some ad =>
  have hcc := hc _ _ rfl ad rfl
  have HC := Lib.hid hcc
  clear hc hz hcc
  go_enter Tryz.func36, Tryz.ntmps36
  go_wp2_with (first | (at_builtin; refine wpList_append_own _ rfl (.tmp 5) (.tmp 6) 52 rfl w.heap.size 5 i0 (.int .u8 0) 1 1 Tryz.underlying52 (hi ()) hz0 hz1 hz2 rfl (by decide) _ _ _ rfl (World.ownsRow_made w #[] 0 (Nat.le_refl _) (Nat.zero_le _) (by simp)) ad n c cs rfl hl (fun j u hu => Lib.cell?_alloc_some _ (HC.out j u hu)) h1 (by rw [Nat.zero_add]; unfold maxLen; omega) (by rw [Nat.zero_add]; omega) (by simp) ?_))
  intro v' w1 hown hgrow hnil
  have hB := ((Below.refl _ w).alloc (Nat.le_refl _) (.cells #[] 5)).grown hgrow (by simp) (by intro k hk; simp [Value.ownBlock] at hk; omega)
  have HO := Lib.hid hown
  clear hown hgrow hnil
  go_wp2_with fail
  go_ret
  exact ⟨_, rfl, by simpa using HO.out, hB⟩
theorem clone_halls (n c : Nat) (w : World) : Calls Tryz.prog 96 #[.slice none n c] w fun e w' => e = .returned (.slice none 0 0) ∧ w = w' := by
 have q22 : ∀ (w : World) (a : Option Addr) (n c n' c' : Nat), (binOp .eql 44 (.slice a n c) (.slice none n' c')).run Tryz.prog w = .ok (.bool a.isNone) w := fun w a n c n' c' => Lib.run_eql_slice_nil w _ _ a n c n' c' Tryz.underlying44
 go_enter Tryz.func96, Tryz.ntmps96
 go_wp2
 go_ret
 exact ⟨rfl, rfl⟩
theorem clone_ins (n c : Nat) (w : World) : Calls Tryz.prog 97 #[.slice none n c] w fun e w' => e = .returned (.slice none 0 0) ∧ w = w' := by
 have q22 : ∀ (w : World) (a : Option Addr) (n c n' c' : Nat), (binOp .eql 45 (.slice a n c) (.slice none n' c')).run Tryz.prog w = .ok (.bool a.isNone) w := fun w a n c n' c' => Lib.run_eql_slice_nil w _ _ a n c n' c' Tryz.underlying45
 go_enter Tryz.func97, Tryz.ntmps97
 go_wp2
 go_ret
 exact ⟨rfl, rfl⟩
structure Turn (T : Nat → Prop) (w w' : World) : Prop where
 os : w'.os = w.os
 tape : w'.tape = w.tape
 output : w'.output = w.output
 size : w.heap.size ≤ w'.heap.size
 block : ∀ k, k < w.heap.size → ¬ T k → w'.heap[k]? = w.heap[k]?
section
variable {T : Nat → Prop} {w w' w2 : World}
theorem Turn.refl (T : Nat → Prop) (w : World) : Turn T w w := ⟨rfl, rfl, rfl, Nat.le_refl _, fun _ _ _ => rfl⟩
theorem Turn.trans (h : Turn T w w') (k : Turn T w' w2) : Turn T w w2 :=
 ⟨k.os.trans h.os, k.tape.trans h.tape, k.output.trans h.output, Nat.le_trans h.size k.size, fun i hi hn => (k.block i (Nat.lt_of_lt_of_le hi h.size) hn).trans (h.block i hi hn)⟩
theorem Turn.mono {T' : Nat → Prop} (h : Turn T w w') (hT : ∀ k, T k → T' k) : Turn T' w w' := ⟨h.os, h.tape, h.output, h.size, fun k hk hn => h.block k hk (fun ht => hn (hT k ht))⟩
theorem Turn.of (h : Below w.heap.size w w') : Turn T w w' := ⟨h.os, h.tape, h.output, h.size, fun k hk _ => h.block k hk⟩
theorem Turn.below (h : Turn T w w') {B : Nat} (hB : B ≤ w.heap.size) (hT : ∀ k, k < B → ¬ T k) : Below B w w' := ⟨h.os, h.tape, h.output, h.size, fun k hk => h.block k (by omega) (hT k hk)⟩
theorem Turn.drew (h : Turn T w w') : Turn T w w'.drew := ⟨h.os, h.tape, h.output, h.size, h.block⟩
theorem Turn.drewN (h : Turn T w w') (n : Nat) : Turn T w (w'.drewN n) := ⟨h.os, h.tape, h.output, h.size, h.block⟩
theorem Turn.alloc (h : Turn T w w') (o : Obj) : Turn T w (w'.alloc o) := h.trans (Turn.of ((Below.refl _ _).alloc (Nat.le_refl _) o))
theorem Turn.setCell (h : Turn T w w') {b : Nat} (hb : T b) (i : Nat) (v : Value) : Turn T w (w'.setCell ⟨b, i, none⟩ v) :=
 h.trans ⟨rfl, rfl, rfl, by simp, fun k _ hn => Below.heap_setCell w' ⟨b, i, none⟩ v k (fun e => hn (by show T k; rw [e]; exact hb))⟩
theorem Turn.setRow (h : Turn T w w') {b : Nat} (hb : T b) (cs : Array Value) : Turn T w (w'.setRow b cs) :=
 h.trans ⟨rfl, rfl, rfl, by simp [World.setRow], fun k _ hn => setRow_other w' b k cs (fun e => hn (by rw [e]; exact hb))⟩
theorem Turn.at {b : Nat} {cs : Array Value} {t : TypeId} (h : Turn T w w') (hb : BlockIs w b cs t) (hn : ¬ T b) : BlockIs w' b cs t := (h.block b hb.lt hn).trans hb
theorem Turn.rd {v : Value} {n : Nat} {cs : List Value} (h : Turn T w w') (hv : Rd w v n cs) (hn : ∀ k, v.ownBlock = some k → ¬ T k) : Rd w' v n cs := by
 rcases hv with hv | ⟨h0, b, o, c, e, hc, hr⟩
 ·exact .inl hv
 ·refine .inr ⟨h0, b, o, c, e, hc, fun j u hu => ?_⟩
  have := hr j u hu
  have hlt := World.block_lt_of_cell? w _ this
  exact (World.cell?_of_block (w := w) (a := ⟨b, o + j, none⟩) (h.block b hlt (hn b (by rw [e]; rfl)))).trans this
theorem Turn.own {B : Nat} {e : TypeId} {k : Nat} {v : Value} {n : Nat} {xs : List Value} (h : Turn T w w') (hv : w.ownsRow B e k v n xs) (hn : ∀ k, v.ownBlock = some k → ¬ T k) : w'.ownsRow B e k v n xs := by
 refine ⟨hv.1, ?_⟩
 rcases hv.2 with hv | ⟨g, cap, cur, e, hb, hg, rest⟩
 ·exact .inl hv
 ·exact .inr ⟨g, cap, cur, e, hb, (h.block g (Array.getElem?_eq_some_iff.1 hg).1 (hn g (by rw [e]; rfl))).trans hg, rest⟩
end
theorem block_setCells {b : Nat} {t : TypeId} : ∀ (vs old l1 l2 : List Value) (W : World), old.length = vs.length → BlockIs W b (l1 ++ (old ++ l2)).toArray t → BlockIs (W.setCells b l1.length vs) b (l1 ++ (vs ++ l2)).toArray t
 | [], old, l1, l2, W, hl, h => by
  have : old = [] := List.eq_nil_of_length_eq_zero hl
  subst this
  exact h
 | v :: r, old, l1, l2, W, hl, h => by
  cases old with
  | nil => simp at hl
  | cons x o =>
   have h1 := h.set l1.length v
   have e : (l1 ++ (x :: o ++ l2)).toArray.setIfInBounds l1.length v = ((l1 ++ [v]) ++ (o ++ l2)).toArray := by
    rw [List.setIfInBounds_toArray, List.set_append_right _ _ (Nat.le_refl _), Nat.sub_self]
    simp
   rw [e] at h1
   have h2 := block_setCells r o (l1 ++ [v]) l2 _ (by simpa using hl) h1
   rw [List.length_append, List.length_singleton] at h2
   have e2 : ((l1 ++ [v]) ++ (r ++ l2)) = (l1 ++ (v :: r ++ l2)) := by simp
   rw [e2] at h2
   exact h2
theorem turn_setCells {T : Nat → Prop} {w : World} {b : Nat} (hb : T b) : ∀ (vs : List Value) (o : Nat) (w' : World), Turn T w w' → Turn T w (w'.setCells b o vs)
 | [], _, _, h => h
 | v :: r, o, w', h => turn_setCells hb r (o + 1) _ (h.setCell hb o v)
end Go.Proofs.YtfnifgppblbjhaaGreatDoor
