/- Part of the proof of TopHoly. -/
import Derived.Test.YtfnifgppblbjhaaGreatDoorY03
import Derived.Test.YtfnifgppblbjhaaGreatDoorY04
import Derived.Test.YtfnifgppblbjhaaGreatDoorY05
import Derived.Test.YtfnifgppblbjhaaGreatDoorY18
import Derived.Test.YtfnifgppblbjhaaGreatDoorY21
import Derived.Deep.RegionWith
namespace Go.Proofs.YtfnifgppblbjhaaGreatDoor
set_option maxHeartbeats 8000000
open Go Go.RowKit Go.Shelf
attribute [local go_sem] Oper.semAt_some
set_option linter.unusedVariables false
set_option linter.unusedSimpArgs false
theorem orising_ok (a : Int) (w : World) : Calls Tryz.prog 225 #[.slice none 0 0, .int .i64 a] w fun e w' => e = .returned (.bool true) ∧ w = w' := by
 go_enter Tryz.func225, Tryz.ntmps225
 go_wp2_with fail
 go_loopw [9] (fun iv wr => iv = .int .i64 0 ∧ w = wr) (fun _ _ => 0)
 case atStart => exact ⟨rfl, rfl⟩
 case round =>
  obtain ⟨rfl, rfl⟩ := hrel
  go_wp2_with fail
  go_ret
  exact ⟨rfl, rfl⟩
def skA (a : Int) : Array Value := #[.int .i64 a, .int .i64 0, .int .i64 0, .bool false, .bool false, .slice none 0 0, .slice none 0 0, .slice none 0 0]
theorem oCheck_ok (a : Int) (w : World) (a1 : 2 ≤ a) (a2 : a ≤ 64) : Calls Tryz.prog 176 #[.agg (skA a)] w fun e w' => e = .returned (.int .i64 0) ∧ Below w.heap.size w w' := by
 have hS := BlockIs.new w (skA a) 220
 have HB := ((Below.refl w.heap.size w).alloc (by exact Nat.le_refl _) (.cells (skA a) 220))
 have c0 := hS.cell (i := 0) (v := .int .i64 a) rfl
 have c1 := hS.cell (i := 1) (v := .int .i64 0) rfl
 have c2 := hS.cell (i := 2) (v := .int .i64 0) rfl
 have c3 := hS.cell (i := 3) (v := .bool false) rfl
 have c4 := hS.cell (i := 4) (v := .bool false) rfl
 have c5 := hS.cell (i := 5) (v := .slice none 0 0) rfl
 have c6 := hS.cell (i := 6) (v := .slice none 0 0) rfl
 have c7 := hS.cell (i := 7) (v := .slice none 0 0) rfl
 have hL := BlockIs.new (w.alloc (.cells (skA a) 220)) #[.slice none 0 0, .slice none 0 0, .slice none 0 0] 22
 rw [World.size_alloc] at hL
 have hS2 := hS.alloc (.cells #[.slice none 0 0, .slice none 0 0, .slice none 0 0] 22)
 have HB2 := HB.alloc (by simp) (.cells #[.slice none 0 0, .slice none 0 0, .slice none 0 0] 22)
 obtain ⟨W, hW⟩ : ∃ W, (w.alloc (.cells (skA a) 220)).alloc (.cells #[.slice none 0 0, .slice none 0 0, .slice none 0 0] 22) = W := ⟨_, rfl⟩
 rw [hW] at hL hS2 HB2
 have d0 := hS2.cell (i := 0) (v := .int .i64 a) rfl
 have hl (k : Nat) (hk : k < 3) : W.cell? ⟨w.heap.size + 1, k, none⟩ = some (.slice none 0 0) := by
  rcases (show k = 0 ∨ k = 1 ∨ k = 2 by omega) with e | e | e <;> subst e <;> exact hL.cell rfl
 have HW := Lib.hid hW
 have HL := Lib.hid hl
 have HB3 := Lib.hid HB2
 clear hW hl hL hS hS2 HB HB2
 go_enter Tryz.func176, Tryz.ntmps176
 go_wp2_with fail
 rw [HW.out]
 clear c0 c1 c2 c3 c4 c5 c6 c7 HW
 go_loopw [4, 46] (fun _ iv wr => ∃ k : Nat, k ≤ 3 ∧ iv = .int .i64 (k : Int) ∧ W = wr) (fun _ iv _ => (3 - intOf iv).toNat)
 case atStart => exact ⟨0, by omega, rfl, rfl⟩
 case round =>
  obtain ⟨k, hk, rfl, rfl⟩ := hrel
  by_cases hc : k < 3
  ·have hcell := HL.out k hc
   go_wp2_with (go_at_call 225; refine (orising_ok _ _).mono ?_; rintro e w' ⟨rfl, rfl⟩)
   go_round
   case rel => exact ⟨k + 1, by omega, by go_num, trivial⟩
   case measure => simp [intOf]; omega
  ·have e : k = 3 := by omega
   subst e
   rw [show (((3 : Nat) : Int)) = 3 from rfl]
   go_wp2_with fail
   go_ret
   exact ⟨rfl, HB3.out⟩
theorem ocalled_ok (w : World) : Calls Tryz.prog 177 #[.agg vw0] w fun e w' => e = .returned (.func (.func 226) #[] #[.pointer (some ⟨w.heap.size, 0, none⟩)]) ∧ w.alloc (.cells vw0 215) = w' := by
 go_enter Tryz.func177, Tryz.ntmps177
 go_wp2_with fail
 go_ret
 exact ⟨rfl, rfl⟩
theorem ocalled_own (n : Nat) (hn : 1 ≤ n) (bv : Nat) (w : World) (hV : BlockIs w bv vw0 215) :
  SeqOwn Fence.wide n Tryz.prog 226 #[.pointer (some ⟨bv, 0, none⟩)] (fun k : Nat => #[.int .i64 (k : Int)]) (fun _ _ => True) bv (fun ys => ys = []) (fun _ => False) (fun _ _ => False) w := by
 intro l J Jx W hW hJ hJx hJb hY h0
 have hV' := hV.below hW hV.lt
 clear hV hY
 refine callsIn_of_wp Tryz.func226 rfl trivial ?_ rfl
 simp only [Tryz.ntmps226, List.size_toArray, List.length_cons, List.length_nil, Nat.reduceAdd, Nat.reduceSub, Array.replicate_succ, Array.replicate_zero, List.push_toArray, List.append_toArray, List.nil_append, List.cons_append]
 have v0 := hV'.cell (i := 0) (v := .slice none 0 0) rfl
 have v1 := hV'.cell (i := 1) (v := .slice none 0 0) rfl
 have v2 := hV'.cell (i := 2) (v := .slice none 0 0) rfl
 gi_wp2
 have hJ0 : J [] (W.alloc (.cells #[.slice none 0 0, .slice none 0 0, .slice none 0 0] 22)) := hJ _ _ _ none h0 (grown_below ((Below.refl _ _).alloc (Nat.le_refl _) _) (Nat.le_refl _) none) (by simp)
 have hG1 := BlockIs.new W #[.slice none 0 0, .slice none 0 0, .slice none 0 0] 22
 clear v0 v1 v2 hV'
 generalize (W.alloc (.cells #[.slice none 0 0, .slice none 0 0, .slice none 0 0] 22)) = W1 at *
 have hl (k : Nat) (hk : k < 3) : W1.cell? ⟨W.heap.size, k, none⟩ = some (.slice none 0 0) := by
  rcases (show k = 0 ∨ k = 1 ∨ k = 2 by omega) with e | e | e <;> subst e <;> exact hG1.cell rfl
 have HL := Lib.hid hl
 clear hl hG1
 gi_loopw [4, 6, 15] (fun _ _ x wr => ∃ i : Nat, i ≤ 3 ∧ x = .int .i64 (i : Int) ∧ W1 = wr) (fun _ _ x _ => (3 - intOf x).toNat)
 case atStart => exact ⟨0, by omega, rfl, rfl⟩
 case round =>
  obtain ⟨i, hi, rfl, rfl⟩ := hrel
  by_cases hlt : i < 3
  ·have hcell := HL.out i hlt
   gi_wp2
   gi_loopw [6, 21] (fun _ x wr => x = .int .i64 0 ∧ W1 = wr) (fun _ _ _ => 0)
   case atStart => exact ⟨rfl, rfl⟩
   case round =>
    obtain ⟨rfl, rfl⟩ := hrel
    gi_wp2
    go_round
    case rel => exact ⟨i + 1, by omega, by go_num, trivial⟩
    case measure => simp [intOf]; omega
  ·have : i = 3 := by omega
   subst this
   gi_wp2
   go_end0
   exact ⟨⟨_, rfl⟩, .inl ⟨_, rfl, hJ0⟩⟩
set_option maxRecDepth 100000 in
theorem oNext_ok (a : Int) (w : World) (a1 : 2 ≤ a) (a2 : a ≤ 64) : Calls Tryz.prog 113 #[.agg (skA a)] w fun e w' => e = .returned (.tuple #[.int .i64 0, .int .i64 0, .int .i64 0]) ∧ Below w.heap.size w w' := by
 refine (callsIn_wide (n := 5)).1 ?_
 refine callsIn_of_wp_marks Tryz.func113 rfl trivial ?_ rfl
 simp only [Tryz.ntmps113, List.size_toArray, List.length_cons, List.length_nil, Nat.reduceAdd, Nat.reduceSub, Array.replicate_succ, Array.replicate_zero, List.push_toArray, List.append_toArray, List.nil_append, List.cons_append]
 refine wpIn_wide.2 ?_
 have hS := BlockIs.new w (skA a) 220
 have HB := ((Below.refl w.heap.size w).alloc (by exact Nat.le_refl _) (.cells (skA a) 220))
 have c0 := hS.cell (i := 0) (v := .int .i64 a) rfl
 have c1 := hS.cell (i := 1) (v := .int .i64 0) rfl
 have c2 := hS.cell (i := 2) (v := .int .i64 0) rfl
 have c3 := hS.cell (i := 3) (v := .bool false) rfl
 have c4 := hS.cell (i := 4) (v := .bool false) rfl
 have c5 := hS.cell (i := 5) (v := .slice none 0 0) rfl
 have c6 := hS.cell (i := 6) (v := .slice none 0 0) rfl
 have c7 := hS.cell (i := 7) (v := .slice none 0 0) rfl
 have HS := Lib.hid hS
 clear hS
 go_wp2_with fail
 refine (oCheck_ok a _ a1 a2).mono ?_; rintro e w1 ⟨rfl, hb1⟩
 have hS1 := HS.out.kept hb1
 have HB1 := HB.trans (hb1.mono HB.size)
 clear c0 c1 c2 c3 c4 c5 c6 c7 HS HB hb1
 have hS2 := ((hS1.alloc (.cells #[.bool false] 4)).alloc (.cells #[.bool false] 4)).alloc (.cells #[.bool false] 4)
 have c5 := hS2.cell (i := 5) (v := .slice none 0 0) rfl
 have c6 := hS2.cell (i := 6) (v := .slice none 0 0) rfl
 have c7 := hS2.cell (i := 7) (v := .slice none 0 0) rfl
 have hz := hS1.lt
 have hA := BlockIs.new ((w1.alloc (.cells #[.bool false] 4)).alloc (.cells #[.bool false] 4)) #[.bool false] 4
 simp only [World.size_alloc] at hA
 have HB2 := ((HB1.alloc HB1.size (.cells #[.bool false] 4)).alloc (by have := HB1.size; simp only [World.size_alloc]; omega) (.cells #[.bool false] 4)).alloc (by have := HB1.size; simp only [World.size_alloc]; omega) (.cells #[.bool false] 4)
 have HA := Lib.hid hA
 have HB3 := Lib.hid HB2
 clear hS1 hS2 hA HB2
 go_wp2_with fail
 refine (ocalled_ok _).mono ?_; rintro e w' ⟨rfl, rfl⟩
 clear c5 c6 c7
 have hA2 := HA.out.alloc (.cells vw0 215)
 have hV2 := BlockIs.new (((w1.alloc (.cells #[.bool false] 4)).alloc (.cells #[.bool false] 4)).alloc (.cells #[.bool false] 4)) vw0 215
 simp only [World.size_alloc] at hV2
 have HB4 := HB3.out.alloc (by have := HB1.size; simp only [World.size_alloc]; omega) (.cells vw0 215)
 obtain ⟨W, hW⟩ : ∃ W, (((w1.alloc (.cells #[.bool false] 4)).alloc (.cells #[.bool false] 4)).alloc (.cells #[.bool false] 4)).alloc (.cells vw0 215) = W := ⟨_, rfl⟩
 rw [hW] at hA2 hV2 HB4
 have hsz : W.heap.size = w1.heap.size + 1 + 1 + 1 + 1 := by rw [← hW]; simp
 have hle := HB1.size
 have HW := Lib.hid hW
 clear hW HA HB3 HB1
 go_wp2_with fail
 rw [HW.out]
 clear HW
 refine (wpIn_wide (n := 5)).1 ?_
 refine' range_own (F := Fence.wide) (n := 5) rfl (by omega) (gf := 226) (lb := #[.pointer (some ⟨w1.heap.size + 1 + 1 + 1, 0, none⟩)]) rfl trivial (enters_of Tryz.func226 (by kernel_rfl) rfl)
  (ocalled_own 4 (by omega) (w1.heap.size + 1 + 1 + 1) W hV2) (fun _ _ => trivial) (fun _ _ _ _ _ _ _ _ => trivial) (Below.refl _ _) (fun _ => rfl) (by omega)
  (fun pre X => BlockIs X (w1.heap.size + 1 + 1) #[.bool false] 4 ∧ Below w.heap.size w X) (fun c pre X => False)
  ?own ?ownx ?st ?start _ ?assign ?body ?done ?stop
 case own => exact OwnFrom.and (Own.from (fun s A B row hs hg hr => hs.grown hg hr) _) (ownFrom_below (Nat.le_refl _) (by omega))
 case ownx => exact fun c s A B row hs => hs.elim
 case st => rintro pre X v ⟨h1, h2⟩; exact ⟨h1.other (a := ⟨w1.heap.size + 1 + 1 + 1, 0, none⟩) (by show w1.heap.size + 1 + 1 ≠ w1.heap.size + 1 + 1 + 1; omega) v, h2.setCell (p := ⟨w1.heap.size + 1 + 1 + 1, 0, none⟩) (by show w.heap.size ≤ w1.heap.size + 1 + 1 + 1; omega) v⟩
 case start => exact ⟨hA2, HB4⟩
 case assign =>
  intro l x X K hK
  gi_wp2
  exact hK
 case body => exact fun _ _ _ _ _ h => h.elim
 case done =>
  rintro D xs X hDl rfl ⟨h1, h2⟩ hK
  have q1 : X.cell? ⟨w1.heap.size + 1 + 1, 0, none⟩ = some (.bool false) := h1.cell rfl
  gi_wp2
  go_wp2
  have hs4 := HB4.size
  refine ⟨by simp, .inl ⟨_, _, rfl, run_takeDeferred hK, ?_⟩⟩
  refine ⟨.tuple #[.int .i64 0, .int .i64 0, .int .i64 0], ?_, rfl, h2.trans (belowK_b (w := w) (Nat.le_refl _) X D _ _ (by omega) hK rfl rfl)⟩
  simp [results, Tryz.results113, go_sem]
 case stop => exact fun _ _ _ _ _ h => h.elim
end Go.Proofs.YtfnifgppblbjhaaGreatDoor
namespace Go.Proofs.YtfnifgppblbjhaaGreatDoor
set_option maxHeartbeats 8000000
open Go Go.RowKit
set_option linter.unusedVariables false
set_option linter.unusedSimpArgs false
def mvA (v : Value) (ca nth : Int) (g : Gr) (home : Int) : Array Value := #[v, .int .i64 ca, .int .i64 nth, .int .i64 g.fl, .int .i64 g.tv, .int .i64 g.lv, .int .i64 g.op, .int .i64 g.dw, .int .i64 g.ld, .int .i64 g.cl, .int .i64 g.ho, .int .i64 g.d, .int .i64 g.m, .int .i64 home]
theorem moves_info : (Tryz.prog.info? 211).map (·.size) = some 14 := by kernel_rfl
theorem aplan_ok (c : Cfg) (vs vw : Value) (mode nth : Int) (w : World) (h : CfgOk c) (hm : CfgM w c vs vw) (h0 : mode = 1 ∨ mode = 2) :
  Calls Tryz.prog 172 #[.agg (cfgA c vs vw), .int .i64 mode, .int .i64 nth] w (PlanP c nth w) := by
 rcases h0 with e | e <;> subst e
 ·exact aplan_one c vs vw nth w h hm
 ·exact aplan_two c vs vw nth w h
def OfP (c : Cfg) (mode nth : Int) (w : World) (e : Ending) (w' : World) : Prop :=
 ∃ (v : Value) (st : List Int) (home : Int), e = .returned (.agg (mvA v c.ca nth (gearM c mode) home)) ∧ StopsOk c.fl st ∧ Rd w' v st.length (st.map (.int .i64)) ∧ 0 ≤ home ∧ home < c.fl ∧ Below w.heap.size w w'
theorem gearM_fl (c : Cfg) (mode : Int) : (gearM c mode).fl = c.fl := by unfold gearM gearC; split <;> (try split) <;> rfl
set_option maxRecDepth 100000 in
theorem aof_ok (c : Cfg) (vs vw : Value) (mode nth : Int) (w : World) (h : CfgOk c) (hm : CfgM w c vs vw) (h0 : mode = 1 ∨ mode = 2) (n0 : 0 ≤ nth) (n1 : nth < c.ca) :
  Calls Tryz.prog 110 #[.agg (cfgA c vs vw), .int .i64 mode, .int .i64 nth] w (OfP c mode nth w) := by
 have hg := gearM_ok h mode
 have hgf := gearM_fl c mode
 obtain ⟨g, hge⟩ : ∃ g, gearM c mode = g := ⟨_, rfl⟩
 have hC := (BlockIs.new w (cfgA c vs vw) 33).alloc (.cells #[.slice none 0 0, .int .i64 0, .int .i64 0, .int .i64 0, .int .i64 0, .int .i64 0, .int .i64 0, .int .i64 0, .int .i64 0, .int .i64 0, .int .i64 0, .int .i64 0, .int .i64 0, .int .i64 0] 211)
 have hR := BlockIs.new (w.alloc (.cells (cfgA c vs vw) 33)) #[.slice none 0 0, .int .i64 0, .int .i64 0, .int .i64 0, .int .i64 0, .int .i64 0, .int .i64 0, .int .i64 0, .int .i64 0, .int .i64 0, .int .i64 0, .int .i64 0, .int .i64 0, .int .i64 0] 211
 simp only [World.size_alloc] at hR
 have HB := (((Below.refl w.heap.size w).alloc (by exact Nat.le_refl _) (.cells (cfgA c vs vw) 33)).alloc (by simp only [World.size_alloc]; omega) (.cells #[.slice none 0 0, .int .i64 0, .int .i64 0, .int .i64 0, .int .i64 0, .int .i64 0, .int .i64 0, .int .i64 0, .int .i64 0, .int .i64 0, .int .i64 0, .int .i64 0, .int .i64 0, .int .i64 0] 211))
 have c2 := hC.cell (i := 2) (v := .int .i64 c.pk) rfl
 have hC2 := hC.alloc (.cells #[.slice none 0 0, .int .i64 0, .int .i64 0, .int .i64 0, .int .i64 0, .int .i64 0, .int .i64 0, .int .i64 0, .int .i64 0, .int .i64 0, .int .i64 0, .int .i64 0, .int .i64 0, .int .i64 c.pk] 211)
 have hR2 := hR.alloc (.cells #[.slice none 0 0, .int .i64 0, .int .i64 0, .int .i64 0, .int .i64 0, .int .i64 0, .int .i64 0, .int .i64 0, .int .i64 0, .int .i64 0, .int .i64 0, .int .i64 0, .int .i64 0, .int .i64 c.pk] 211)
 have hM2 := BlockIs.new ((w.alloc (.cells (cfgA c vs vw) 33)).alloc (.cells #[.slice none 0 0, .int .i64 0, .int .i64 0, .int .i64 0, .int .i64 0, .int .i64 0, .int .i64 0, .int .i64 0, .int .i64 0, .int .i64 0, .int .i64 0, .int .i64 0, .int .i64 0, .int .i64 0] 211)) #[.slice none 0 0, .int .i64 0, .int .i64 0, .int .i64 0, .int .i64 0, .int .i64 0, .int .i64 0, .int .i64 0, .int .i64 0, .int .i64 0, .int .i64 0, .int .i64 0, .int .i64 0, .int .i64 c.pk] 211
 simp only [World.size_alloc] at hM2
 have HB2 := HB.alloc (by simp only [World.size_alloc]; omega) (.cells #[.slice none 0 0, .int .i64 0, .int .i64 0, .int .i64 0, .int .i64 0, .int .i64 0, .int .i64 0, .int .i64 0, .int .i64 0, .int .i64 0, .int .i64 0, .int .i64 0, .int .i64 0, .int .i64 c.pk] 211)
 obtain ⟨W, hW⟩ : ∃ W, ((w.alloc (.cells (cfgA c vs vw) 33)).alloc (.cells #[.slice none 0 0, .int .i64 0, .int .i64 0, .int .i64 0, .int .i64 0, .int .i64 0, .int .i64 0, .int .i64 0, .int .i64 0, .int .i64 0, .int .i64 0, .int .i64 0, .int .i64 0, .int .i64 0] 211)).alloc (.cells #[.slice none 0 0, .int .i64 0, .int .i64 0, .int .i64 0, .int .i64 0, .int .i64 0, .int .i64 0, .int .i64 0, .int .i64 0, .int .i64 0, .int .i64 0, .int .i64 0, .int .i64 0, .int .i64 c.pk] 211) = W := ⟨_, rfl⟩
 rw [hW] at hC2 hR2 hM2 HB2
 have HM0 := Lib.hid hm
 have hm2 := Lib.hid (hm.below HB2)
 have hrange := cfg_range hC2
 have HW := Lib.hid hW
 have HC := Lib.hid hC2
 have HR := Lib.hid hR2
 have HM := Lib.hid hM2
 clear hC hR HB hm hC2 hR2 hM2 hW
 go_enter Tryz.func110, Tryz.ntmps110
 go_upto_region 2 with fail
 rw [HW.out]
 clear c2 HW
 go_wp2_with (((with_reducible show wpList _ _ _ _ _ _); refine wl_cfg (.tmp 3) c vs vw w.heap.size 0 ?_ ?_ ?_ hrange ?_; rfl; rfl; rfl))
 refine (aplan_ok c vs vw mode nth _ h hm2.out h0).mono ?_; rintro e w1 ⟨v, st, rfl, hst, hown, hb1⟩
 obtain ⟨pv, qv, rfl⟩ := (own_rd hown).form
 have hM1 := HM.out.kept hb1
 have hC1 := HC.out.kept hb1
 have hR1 := HR.out.kept hb1
 have hlt := HM.out.lt
 have HB3 := HB2.trans (hb1.mono HB2.size)
 have hth := there_of hM1 0 3 (by show 3 ≤ 14; omega)
 clear hrange HC HR HM hm2 HB2
 go_wp2_with (((with_reducible show wpList _ _ _ _ _ _); refine ws_at 209 (.tmp 15) (.tmp 14) (w.heap.size + 1 + 1) 0 (plA (.slice pv st.length qv) c.ca nth) ?_ ?_ ?_ ?_ 3 rfl hth plan_info (by simp [plA, Value.oneCell']) ?_; rfl; rfl; rfl; rfl))
 intro W2 hW2
 have hk : BlockIs W2 (w.heap.size + 1 + 1) (#[.slice pv st.length qv, .int .i64 c.ca, .int .i64 nth, .int .i64 0, .int .i64 0, .int .i64 0, .int .i64 0, .int .i64 0, .int .i64 0, .int .i64 0, .int .i64 0, .int .i64 0, .int .i64 0, .int .i64 c.pk]) 211 := by rw [hW2.out]; exact block_setCells (plA (.slice pv st.length qv) c.ca nth).toList [.slice none 0 0, .int .i64 0, .int .i64 0] [] [.int .i64 0, .int .i64 0, .int .i64 0, .int .i64 0, .int .i64 0, .int .i64 0, .int .i64 0, .int .i64 0, .int .i64 0, .int .i64 0, .int .i64 c.pk] _ rfl hM1
 have hT2 : Turn (fun k => k = w.heap.size + 1 + 1) w1 W2 := by rw [hW2.out]; exact turn_setCells (T := fun k => k = w.heap.size + 1 + 1) (b := w.heap.size + 1 + 1) rfl _ _ _ (Turn.refl _ _)
 have hC2 := hT2.at hC1 (by omega)
 have hR2 := hT2.at hR1 (by omega)
 have hO2 := hT2.own hown (fun k hk => by have := (hown.lt _ hk).1; omega)
 have HB4 := HB3.trans (hT2.below (B := w.heap.size) (by have := HB3.size; omega) (by intro k hk; omega))
 have hrange2 := cfg_range hC2
 have HC2 := Lib.hid hC2
 have HR2 := Lib.hid hR2
 have HK2 := Lib.hid hk
 have HO2 := Lib.hid hO2
 clear hM1 hC1 hR1 HB3 hth hW2 hT2 hown hb1 hC2 hR2 hO2 hk
 go_wp2_with (((with_reducible show wpList _ _ _ _ _ _); refine wl_cfg (.tmp 3) c vs vw w.heap.size 0 ?_ ?_ ?_ hrange2 ?_; rfl; rfl; rfl))
 refine (aGear_ok c vs vw mode _ h (HM0.out.below HB4) (by omega)).mono ?_; rintro e w3 ⟨rfl, hb3⟩
 rw [hge]
 rw [hge] at hg hgf
 have hM3 := HK2.out.kept hb3
 have hR3 := HR2.out.kept hb3
 have hO3 := own_below HO2.out hb3
 have HB5 := HB4.trans (hb3.mono HB4.size)
 have hth := there_of hM3 3 10 (by show 3 + 10 ≤ 14; omega)
 clear hrange2 HC2 HR2 HK2 HO2 hb3 HB4
 go_wp2_with (((with_reducible show wpList _ _ _ _ _ _); refine ws_at 91 (.tmp 22) (.tmp 20) (w.heap.size + 1 + 1) 3 (grA g) ?_ ?_ ?_ ?_ 10 rfl hth gear_info (by simp [grA, Value.oneCell']) ?_; rfl; rfl; rfl; rfl))
 intro W4 hW4
 have hk : BlockIs W4 (w.heap.size + 1 + 1) (mvA (.slice pv st.length qv) c.ca nth g c.pk) 211 := by rw [hW4.out]; exact block_setCells (grA g).toList [.int .i64 0, .int .i64 0, .int .i64 0, .int .i64 0, .int .i64 0, .int .i64 0, .int .i64 0, .int .i64 0, .int .i64 0, .int .i64 0] [.slice pv st.length qv, .int .i64 c.ca, .int .i64 nth] [.int .i64 c.pk] _ rfl hM3
 have hT4 : Turn (fun k => k = w.heap.size + 1 + 1) w3 W4 := by rw [hW4.out]; exact turn_setCells (T := fun k => k = w.heap.size + 1 + 1) (b := w.heap.size + 1 + 1) rfl _ _ _ (Turn.refl _ _)
 have hR4 := hT4.at hR3 (by omega)
 have hO4 := hT4.own hO3 (fun k hk => by have := (hO3.lt _ hk).1; omega)
 have HB6 := HB5.trans (hT4.below (B := w.heap.size) (by have := HB5.size; omega) (by intro k hk; omega))
 have k0 := hk.cell (i := 0) (v := .slice pv st.length qv) rfl
 have hrg : W4.rangeAt (w.heap.size + 1 + 1) 3 (grA g).toList := block_sub hk 3 10
 have hrp : W4.rangeAt (w.heap.size + 1 + 1) 0 (plA (.slice pv st.length qv) c.ca nth).toList := block_sub hk 0 3
 have hs2 := hst.1
 have hst' : StopsOk g.fl st := by rw [hgf]; exact hst
 have hrd := Lib.hid (own_rd hO4)
 have HK4 := Lib.hid hk
 have HR4 := Lib.hid hR4
 have HO4 := Lib.hid hO4
 generalize hn : st.length = n at *
 have hd : decide ((0 : Int) < (n : Int)) = true := by simp; omega
 clear hM3 hR3 hO3 HB5 hth hW4 hT4 hR4 hO4 hk
 go_wp2_with (first
  | ((with_reducible show wpList _ _ _ _ _ _); refine wl_any 91 (.tmp 29) (grA g).toList (w.heap.size + 1 + 1) 3 _ Tryz.underlying91 rfl gear_info ?_ ?_ ?_ hrg ?_; rfl; rfl; rfl)
  | ((with_reducible show wpList _ _ _ _ _ _); refine wl_any 209 (.tmp 31) (plA (.slice pv n qv) c.ca nth).toList (w.heap.size + 1 + 1) 0 _ Tryz.underlying209 rfl plan_info ?_ ?_ ?_ hrp ?_; rfl; rfl; rfl))
 have hst2 : StopsOk g.fl st := hst'
 have hrd2 : Rd W4 (.slice pv n qv) st.length (st.map (.int .i64)) := by rw [hn]; exact hrd.out
 have hq1 := h.ca1
 have hq2 := h.ca2
 have HF := yFirst_ok g st (.slice pv n qv) c.ca nth W4 hg hst2 hrd2 hq1 hq2 n0 n1
 refine HF.mono ?_; rintro e w5 ⟨x, x0, x1, rfl, hb5⟩
 have hM5 := HK4.out.kept hb5
 have hR5 := HR4.out.kept hb5
 have hO5 := own_below HO4.out hb5
 have HB7 := HB6.trans (hb5.mono HB6.size)
 have k13 := hM5.cell (i := 13) (v := .int .i64 c.pk) rfl
 have f13 := hM5.free 13
 have hM6 := hM5.set 13 (.int .i64 x)
 have hR6 := hR5.other (a := ⟨w.heap.size + 1 + 1, 13, none⟩) (by show w.heap.size + 1 ≠ w.heap.size + 1 + 1; omega) (.int .i64 x)
 have hT6 := (Turn.refl (fun k => k = w.heap.size + 1 + 1) w5).setCell rfl 13 (.int .i64 x)
 have hO6 := hT6.own hO5 (fun k hk => by have := (hO5.lt _ hk).1; omega)
 have HB8 := HB7.trans (hT6.below (B := w.heap.size) (by have := HB7.size; omega) (by intro k hk; omega))
 have hrm : (w5.setCell ⟨w.heap.size + 1 + 1, 13, none⟩ (.int .i64 x)).rangeAt (w.heap.size + 1 + 1) 0 (mvA (.slice pv n qv) c.ca nth g x).toList := block_sub hM6 0 14
 have hO7 := ((Turn.refl (fun k => k = w.heap.size + 1) _).setRow rfl (mvA (.slice pv n qv) c.ca nth g x)).own hO6 (fun k hk => by have := (hO6.lt _ hk).1; omega)
 have HR6 := Lib.hid hR6
 have HR7 := Lib.hid (hR6.row (mvA (.slice pv n qv) c.ca nth g x))
 have HO7 := Lib.hid (own_rd hO7)
 have HB9 := Lib.hid (below_setRow HB8 (by omega : w.heap.size ≤ w.heap.size + 1) (mvA (.slice pv n qv) c.ca nth g x))
 have hfl : x < c.fl := by rw [← hgf]; exact x1
 have HE := Lib.hid hge
 clear k0 hrg hrp HK4 HR4 HO4 hrd hrd2 hM5 hR5 hO5 HB7 hM6 hR6 hT6 hO6 HB8 hO7 hb5 HB6 HF hge
 go_wp2_with (first
  | ((with_reducible show wpList _ _ _ _ _ _); refine wl_any 211 (.tmp 7) (mvA (.slice pv n qv) c.ca nth g x).toList (w.heap.size + 1 + 1) 0 _ Tryz.underlying211 rfl moves_info ?_ ?_ ?_ hrm ?_; rfl; rfl; rfl)
  | ((with_reducible show wpList _ _ _ _ _ _); refine ws_any 211 (.tmp 6) (.tmp 37) (mvA (.slice pv n qv) c.ca nth g x) (w.heap.size + 1) _ 211 ?_ ?_ ?_ ?_ HR6.out moves_info rfl (by simp [mvA, Value.oneCell']) ?_; rfl; rfl; rfl; rfl))
 refine bodyPost_ret (res_row rfl _ _ (w.heap.size + 1) 211 (mvA (.slice pv n qv) c.ca nth g x) _ rfl HR7.out Tryz.underlying211 rfl moves_info) rfl ⟨.slice pv n qv, st, x, ?_, hst, ?_, x0, hfl, HB9.out⟩
 ·rw [HE.out]
 ·rw [hn]; exact HO7.out
def li0 : List Value := [.int .i64 0, .int .i64 0, .int .i64 0, .int .i64 0, .int .i64 0, .int .i64 0, .int .i64 0, .int .i64 0, .bool false, .bool false]
theorem lift_info : (Tryz.prog.info? 87).map (·.size) = some 10 := by kernel_rfl
theorem house_info : (Tryz.prog.info? 130).map (·.size) = some 2 := by kernel_rfl
theorem glift_ok (g : Gr) (w : World) (h : GrOk g) : Calls Tryz.prog 166 #[.agg (grA g), .agg li0.toArray] w fun e w' => e = .returned (.bool true) ∧ Below w.heap.size w w' := by
 have hG := (BlockIs.new w (grA g) 91).alloc (.cells li0.toArray 87)
 have hL := BlockIs.new (w.alloc (.cells (grA g) 91)) li0.toArray 87
 simp only [World.size_alloc] at hL
 have HB := (((Below.refl w.heap.size w).alloc (by exact Nat.le_refl _) (.cells (grA g) 91)).alloc (by simp only [World.size_alloc]; omega) (.cells li0.toArray 87))
 have c0 := hG.cell (i := 0) (v := .int .i64 g.fl) rfl
 have c1 := hG.cell (i := 1) (v := .int .i64 g.tv) rfl
 have c2 := hG.cell (i := 2) (v := .int .i64 g.lv) rfl
 have c3 := hG.cell (i := 3) (v := .int .i64 g.op) rfl
 have c4 := hG.cell (i := 4) (v := .int .i64 g.dw) rfl
 have c5 := hG.cell (i := 5) (v := .int .i64 g.ld) rfl
 have c6 := hG.cell (i := 6) (v := .int .i64 g.cl) rfl
 have c7 := hG.cell (i := 7) (v := .int .i64 g.ho) rfl
 have c8 := hG.cell (i := 8) (v := .int .i64 g.d) rfl
 have c9 := hG.cell (i := 9) (v := .int .i64 g.m) rfl
 have d0 := hL.cell (i := 0) (v := .int .i64 0) rfl
 have d1 := hL.cell (i := 1) (v := .int .i64 0) rfl
 have d2 := hL.cell (i := 2) (v := .int .i64 0) rfl
 have d3 := hL.cell (i := 3) (v := .int .i64 0) rfl
 have d4 := hL.cell (i := 4) (v := .int .i64 0) rfl
 have d5 := hL.cell (i := 5) (v := .int .i64 0) rfl
 have d6 := hL.cell (i := 6) (v := .int .i64 0) rfl
 have d7 := hL.cell (i := 7) (v := .int .i64 0) rfl
 have d8 := hL.cell (i := 8) (v := .bool false) rfl
 have d9 := hL.cell (i := 9) (v := .bool false) rfl
 have HL := Lib.hid hL
 clear hG hL
 go_enter Tryz.func166, Tryz.ntmps166
 go_wp2_with fail
 refine (carRest_ok g _ h).mono ?_; rintro e w1 ⟨rfl, hb1⟩
 have hL1 := HL.out.kept hb1
 have HB1 := Lib.hid (HB.trans (hb1.mono HB.size))
 have x7 := hL1.cell (i := 7) (v := .int .i64 0) rfl
 clear c0 c1 c2 c3 c4 c5 c6 c7 c8 c9 d0 d1 d2 d3 d4 d5 d6 d7 d8 d9 HB hb1 HL hL1
 go_wp2_with fail
 go_ret
 exact ⟨rfl, HB1.out⟩
theorem ghouse_ok (g : Gr) (p : Option Addr) (n c : Nat) (w : World) : Calls Tryz.prog 167 #[.agg (grA g), .slice p n c] w fun e w' => e = .returned (.agg #[.int .i64 g.fl, .int .i64 (n : Int)]) ∧ Below w.heap.size w w' := by
 have hG := (BlockIs.new w (grA g) 91).alloc (.cells #[.int .i64 0, .int .i64 0] 130)
 have hH := BlockIs.new (w.alloc (.cells (grA g) 91)) #[.int .i64 0, .int .i64 0] 130
 simp only [World.size_alloc] at hH
 have HB := (((Below.refl w.heap.size w).alloc (by exact Nat.le_refl _) (.cells (grA g) 91)).alloc (by simp only [World.size_alloc]; omega) (.cells #[.int .i64 0, .int .i64 0] 130))
 have c0 := hG.cell (i := 0) (v := .int .i64 g.fl) rfl
 have HH := Lib.hid hH
 have HH2 := Lib.hid (hH.row #[.int .i64 g.fl, .int .i64 (n : Int)])
 have HB1 := Lib.hid (below_setRow HB (by omega : w.heap.size ≤ w.heap.size + 1) #[.int .i64 g.fl, .int .i64 (n : Int)])
 clear hG hH HB
 go_enter Tryz.func167, Tryz.ntmps167
 go_wp2_with ((with_reducible show wpList _ _ _ _ _ _); refine ws_any 130 (.tmp 4) (.tmp 9) #[.int .i64 g.fl, .int .i64 (n : Int)] (w.heap.size + 1) _ 130 ?_ ?_ ?_ ?_ HH.out house_info rfl (by simp [Value.oneCell']) ?_; rfl; rfl; rfl; rfl)
 exact bodyPost_ret (res_row rfl _ _ (w.heap.size + 1) 130 _ _ rfl HH2.out Tryz.underlying130 rfl house_info) rfl ⟨rfl, HB1.out⟩
def LiftsAt (w : World) (b n : Nat) : Prop := ∀ k, k < n → w.rangeAt b (k * 10) li0
theorem LiftsAt.below {w w' : World} {b n : Nat} (h : LiftsAt w b n) (hb : Below w.heap.size w w') : LiftsAt w' b n := fun k hk => range_keep (h k hk) hb
theorem gCheck_ok (g : Gr) (b n cap : Nat) (p q : Option Addr) (c d : Nat) (w : World) (h : GrOk g) (n1 : 1 ≤ n) (n8 : n ≤ 8) (hl : LiftsAt w b n) :
  Calls Tryz.prog 107 #[.agg (grA g), .slice (some ⟨b, 0, none⟩) n cap, .agg #[.slice p 0 c, .slice q 0 d]] w fun e w' => e = .returned (.int .i64 0) ∧ Below w.heap.size w w' := by
 have hG := (BlockIs.new w (grA g) 91).alloc (.cells #[.slice p 0 c, .slice q 0 d] 47)
 have hC := BlockIs.new (w.alloc (.cells (grA g) 91)) #[.slice p 0 c, .slice q 0 d] 47
 simp only [World.size_alloc] at hC
 have HB := (((Below.refl w.heap.size w).alloc (by exact Nat.le_refl _) (.cells (grA g) 91)).alloc (by simp only [World.size_alloc]; omega) (.cells #[.slice p 0 c, .slice q 0 d] 47))
 obtain ⟨W, hW⟩ : ∃ W, (w.alloc (.cells (grA g) 91)).alloc (.cells #[.slice p 0 c, .slice q 0 d] 47) = W := ⟨_, rfl⟩
 rw [hW] at hG hC HB
 have HW := Lib.hid hW
 have HG := Lib.hid hG
 have HC := Lib.hid hC
 have HL := Lib.hid (hl.below HB)
 have d1 : decide ((n : Int) < 1) = false := by simp; omega
 have d2 : decide ((8 : Int) < (n : Int)) = false := by simp; omega
 clear hW hG hC hl
 go_enter Tryz.func107, Tryz.ntmps107
 go_wp2_with fail
 rw [HW.out]
 go_loopw [8, 19] (fun _ iv wr => ∃ k : Nat, k ≤ n ∧ iv = .int .i64 (k : Int) ∧ Below W.heap.size W wr) (fun _ iv _ => (n - intOf iv).toNat)
 case atStart => exact ⟨0, by omega, rfl, Below.refl _ _⟩
 case round =>
  obtain ⟨k, hk, rfl, hB⟩ := hrel
  by_cases hc : k < n
  ·have hd : decide (k < n) = true := by simpa using hc
   have hr := (HL.out.below hB) k hc
   have hG1 := (HG.out.kept hB).alloc (.cells #[.int .i64 0, .int .i64 0, .int .i64 0, .int .i64 0, .int .i64 0, .int .i64 0, .int .i64 0, .int .i64 0, .bool false, .bool false] 87)
   have hL1 := BlockIs.new wr #[.int .i64 0, .int .i64 0, .int .i64 0, .int .i64 0, .int .i64 0, .int .i64 0, .int .i64 0, .int .i64 0, .bool false, .bool false] 87
   have hB1 := hB.alloc hB.size (.cells #[.int .i64 0, .int .i64 0, .int .i64 0, .int .i64 0, .int .i64 0, .int .i64 0, .int .i64 0, .int .i64 0, .bool false, .bool false] 87)
   have c0 := hG1.cell (i := 0) (v := .int .i64 g.fl) rfl
   have c1 := hG1.cell (i := 1) (v := .int .i64 g.tv) rfl
   have c2 := hG1.cell (i := 2) (v := .int .i64 g.lv) rfl
   have c3 := hG1.cell (i := 3) (v := .int .i64 g.op) rfl
   have c4 := hG1.cell (i := 4) (v := .int .i64 g.dw) rfl
   have c5 := hG1.cell (i := 5) (v := .int .i64 g.ld) rfl
   have c6 := hG1.cell (i := 6) (v := .int .i64 g.cl) rfl
   have c7 := hG1.cell (i := 7) (v := .int .i64 g.ho) rfl
   have c8 := hG1.cell (i := 8) (v := .int .i64 g.d) rfl
   have c9 := hG1.cell (i := 9) (v := .int .i64 g.m) rfl
   have d0 := hL1.cell (i := 0) (v := .int .i64 0) rfl
   have d1 := hL1.cell (i := 1) (v := .int .i64 0) rfl
   have d2 := hL1.cell (i := 2) (v := .int .i64 0) rfl
   have d3 := hL1.cell (i := 3) (v := .int .i64 0) rfl
   have d4 := hL1.cell (i := 4) (v := .int .i64 0) rfl
   have d5 := hL1.cell (i := 5) (v := .int .i64 0) rfl
   have d6 := hL1.cell (i := 6) (v := .int .i64 0) rfl
   have d7 := hL1.cell (i := 7) (v := .int .i64 0) rfl
   have d8 := hL1.cell (i := 8) (v := .bool false) rfl
   have d9 := hL1.cell (i := 9) (v := .bool false) rfl
   clear hG1 hL1
   go_wp2_with ((with_reducible show wpList _ _ _ _ _ _); refine wl_any 87 (.tmp 21) [.int .i64 0, .int .i64 0, .int .i64 0, .int .i64 0, .int .i64 0, .int .i64 0, .int .i64 0, .int .i64 0, .bool false, .bool false] b (k * 10) _ Tryz.underlying87 rfl lift_info ?_ ?_ ?_ hr ?_; rfl; rfl; rfl)
   refine (glift_ok g _ h).mono ?_; rintro e w1 ⟨rfl, hb1⟩
   have hB2 := hB1.trans (hb1.mono hB1.size)
   clear c0 c1 c2 c3 c4 c5 c6 c7 c8 c9 d0 d1 d2 d3 d4 d5 d6 d7 d8 d9 hr hb1 hB1
   go_wp2_with fail
   go_round
   case rel => exact ⟨k + 1, by omega, by go_num, hB2⟩
   case measure => simp [intOf]; omega
  ·have e : k = n := by omega
   subst e
   have hd : decide (k < k) = false := by simp
   have hG1 := HG.out.kept hB
   have hC1 := HC.out.kept hB
   have hd2 := (Below.refl wr.heap.size wr).drew
   have HS := Lib.hid (show ∀ W', Below wr.heap.size wr W' → W'.cell? ⟨w.heap.size, 0, none⟩ = some (.int .i64 g.fl) ∧ W'.cell? ⟨w.heap.size, 1, none⟩ = some (.int .i64 g.tv) ∧ W'.cell? ⟨w.heap.size, 2, none⟩ = some (.int .i64 g.lv) ∧ W'.cell? ⟨w.heap.size, 3, none⟩ = some (.int .i64 g.op) ∧ W'.cell? ⟨w.heap.size, 4, none⟩ = some (.int .i64 g.dw) ∧ W'.cell? ⟨w.heap.size, 5, none⟩ = some (.int .i64 g.ld) ∧ W'.cell? ⟨w.heap.size, 6, none⟩ = some (.int .i64 g.cl) ∧ W'.cell? ⟨w.heap.size, 7, none⟩ = some (.int .i64 g.ho) ∧ W'.cell? ⟨w.heap.size, 8, none⟩ = some (.int .i64 g.d) ∧ W'.cell? ⟨w.heap.size, 9, none⟩ = some (.int .i64 g.m) ∧ W'.cell? ⟨w.heap.size + 1, 0, none⟩ = some (.slice p 0 c) ∧ W'.cell? ⟨w.heap.size + 1, 1, none⟩ = some (.slice q 0 d) ∧ Below wr.heap.size wr W' from fun W' h => ⟨(hG1.kept h).cell rfl, (hG1.kept h).cell rfl, (hG1.kept h).cell rfl, (hG1.kept h).cell rfl, (hG1.kept h).cell rfl, (hG1.kept h).cell rfl, (hG1.kept h).cell rfl, (hG1.kept h).cell rfl, (hG1.kept h).cell rfl, (hG1.kept h).cell rfl, (hC1.kept h).cell rfl, (hC1.kept h).cell rfl, h⟩)
   clear hG1 hC1
   go_wp2_with fail
   go_region_held3 (fun W' => W'.cell? ⟨w.heap.size, 0, none⟩ = some (.int .i64 g.fl) ∧ W'.cell? ⟨w.heap.size, 1, none⟩ = some (.int .i64 g.tv) ∧ W'.cell? ⟨w.heap.size, 2, none⟩ = some (.int .i64 g.lv) ∧ W'.cell? ⟨w.heap.size, 3, none⟩ = some (.int .i64 g.op) ∧ W'.cell? ⟨w.heap.size, 4, none⟩ = some (.int .i64 g.dw) ∧ W'.cell? ⟨w.heap.size, 5, none⟩ = some (.int .i64 g.ld) ∧ W'.cell? ⟨w.heap.size, 6, none⟩ = some (.int .i64 g.cl) ∧ W'.cell? ⟨w.heap.size, 7, none⟩ = some (.int .i64 g.ho) ∧ W'.cell? ⟨w.heap.size, 8, none⟩ = some (.int .i64 g.d) ∧ W'.cell? ⟨w.heap.size, 9, none⟩ = some (.int .i64 g.m) ∧ W'.cell? ⟨w.heap.size + 1, 0, none⟩ = some (.slice p 0 c) ∧ W'.cell? ⟨w.heap.size + 1, 1, none⟩ = some (.slice q 0 d) ∧ Below wr.heap.size wr W')
    (first
     | (exact HS.out _ hd2)
     | assumption
     | (exact HS.out _ hX2)
     | (exact HS.out _ hX1)
     | go_keep)
    (first
     | (go_at_call 167; refine (ghouse_ok g _ k cap _).mono ?_; rintro e v1 ⟨rfl, hb1⟩; have hX1 := hd2.trans (hb1.mono hd2.size))
     | (go_at_call 150; refine (lCheck_ok _ _ p q c d _ h.1.1 h.1.2 (by omega) (by omega)).mono ?_; rintro e v2 ⟨rfl, hb2⟩; have hX2 := hX1.trans (hb2.mono hX1.size)))
   all_goals
    have HB6 := Lib.hid (HB.trans ((hB.trans (hX2.mono hB.size)).mono HB.size))
    clear hX1 hX2 hb1 hb2 hd2 HS
    go_wp2_with fail
    go_ret
    exact ⟨rfl, HB6.out⟩
end Go.Proofs.YtfnifgppblbjhaaGreatDoor
