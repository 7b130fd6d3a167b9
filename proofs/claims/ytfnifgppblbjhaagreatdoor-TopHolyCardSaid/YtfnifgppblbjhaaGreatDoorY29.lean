/- Part of the proof of TopHoly. -/
import Derived.Test.YtfnifgppblbjhaaGreatDoorY01
import Derived.Test.YtfnifgppblbjhaaGreatDoorY10
import Derived.Test.YtfnifgppblbjhaaGreatDoorY13
import Derived.Test.YtfnifgppblbjhaaGreatDoorY18
import Derived.Test.YtfnifgppblbjhaaGreatDoorY28
import Derived.Handy
namespace Go.Proofs.YtfnifgppblbjhaaGreatDoor
set_option maxHeartbeats 8000000
open Go Go.RowKit
set_option linter.unusedVariables false
set_option linter.unusedSimpArgs false
theorem cfgB_byte {c : Cfg} (h : CfgOk c) : ∀ x ∈ cfgB c, x < 256 := by
 unfold cfgB sealV
 intro x hx
 rcases List.mem_append.1 hx with hx | hx
 ·exact rowsB_lt h x hx
 ·have := moreV_lt (s := 65535) (by omega) ([78, 87, 1] ++ rowsB c)
  simp only [List.mem_cons, List.not_mem_nil, or_false] at hx
  rcases hx with e | e <;> omega
set_option maxRecDepth 100000 in
theorem tstart_one (b lb n cap : Nat) (x : Tw) (w : World) (h : BlockIs w b (twA x) 81) (hl : LiB w lb n 0) (hx : x.lf = .slice (some ⟨lb, 0, none⟩) n cap) (hn : n ≤ 8) (hne : lb ≠ b) (hv : x.v0.oneCell' = true) (hw : x.w0.oneCell' = true)
  (g k m : Int) (q : Option Addr) (d : Nat) (ht : Tab w) (hra : Rd w x.fa (recB g k m (cfgB x.c0)).length (bts (recB g k m (cfgB x.c0)))) (hfb : x.fb = .slice q 0 d) (h0 : CfgOk x.c0) (hm : CfgM w x.c0 x.v0 x.w0) (g1 : 1 ≤ g) (g2 : g ≤ 1099511627776) (hk : I64 k) (m1 : 0 ≤ m) (m2 : m ≤ 5)
  (hG1 : 2 ≠ b) (hG2 : 1 ≠ b) (hna : ∀ k, x.fa.ownBlock = some k → k ≠ b) (hn0 : ∀ k, x.v0.ownBlock = some k → k ≠ b) (hn1 : ∀ k, x.w0.ownBlock = some k → k ≠ b) :
  Calls Tryz.prog 23 #[.pointer (some ⟨b, 0, none⟩)] w fun e w' => ∃ v1 w1, e = .returned (.tuple #[]) ∧ BlockIs w' b (twA (twS x true g v1 w1)) 81 ∧ CfgM w' x.c0 v1 w1 ∧ (∀ k, v1.ownBlock = some k → w.heap.size ≤ k) ∧ (∀ k, w1.ownBlock = some k → w.heap.size ≤ k) ∧ Turn (fun k => k = b) w w' := by
 have hr0 : w.rangeAt b 0 (cfgA x.c0 x.v0 x.w0).toList := block_sub h 0 37
 have hltw := h.lt
 have hth := there_of h 37 37 (by show 37 + 37 ≤ 87; omega)
 have hT0 : Turn (fun k => k = b) w (w.setCells b 37 (cfgA x.c0 x.v0 x.w0).toList) := turn_setCells (T := fun k => k = b) rfl _ _ _ (Turn.refl _ _)
 have hb0 := tw_cfg h x.c0 x.v0 x.w0
 have HTH := Lib.hid hth
 have HV := Lib.hid hv
 have HW := Lib.hid hw
 have HT0 := Lib.hid hT0
 have HB0 := Lib.hid hb0
 have HLI := Lib.hid hl
 obtain ⟨pa, oa, ca, hfa, hca, hraa⟩ := hra.some (by unfold recB sealV; simp only [List.length_append, List.length_cons, List.length_nil]; omega)
 have HXX := Lib.hid (And.intro hx (And.intro hfa hfb))
 have HTA := Lib.hid ht
 have HRA := Lib.hid hra
 have HM := Lib.hid hm
 have H0 := Lib.hid h0
 clear h hT0 hb0 hl hx hfa hfb hth hv hw ht hra hm h0 hraa
 go_enter Tryz.func23, Tryz.ntmps23
 go_upto_region 2 with (first
  | ((with_reducible show wpList _ _ _ _ _ _); refine wl_cfg (.tmp 16) x.c0 x.v0 x.w0 b 0 ?_ ?_ ?_ hr0 ?_; rfl; rfl; rfl)
  | ((with_reducible show wpList _ _ _ _ _ _); refine ws_at 33 (.tmp 19) (.tmp 17) b 37 (cfgA x.c0 x.v0 x.w0) rfl rfl rfl rfl 37 rfl HTH.out cfg_info (tcfg_one _ _ _ HV.out HW.out) ?_; intro W1 hW1; (have hb1 := HB0.out); (have hT1 := HT0.out); (rw [← hW1.out] at hb1 hT1); (have c74 := hb1.cell (i := 74) (v := .bool x.own) rfl); (have c75 := hb1.cell (i := 75) (v := .int .i64 x.gen) rfl); (have f74 := hb1.free 74); (have f75 := hb1.free 75); (have HB1 := Lib.hid hb1); (have HT1 := Lib.hid hT1); clear hW1 hb1 hT1))
 have hb2 : BlockIs _ b (twA { x with c := x.c0, v := x.v0, w := x.w0, own := false, gen := 0 }) 81 := (HB1.out.set 74 (.bool false)).set 75 (.int .i64 0)
 have hT2 := (HT1.out.setCell rfl 74 (.bool false)).setCell rfl 75 (.int .i64 0)
 obtain ⟨W2, hW2⟩ : ∃ W2, (W1.setCell ⟨b, 74, none⟩ (.bool false)).setCell ⟨b, 75, none⟩ (.int .i64 0) = W2 := ⟨_, rfl⟩
 rw [hW2] at hb2 hT2
 rw [hW2]
 have y85 := hb2.cell (i := 85) (v := .slice (some ⟨pa, oa, none⟩) (recB g k m (cfgB x.c0)).length ca) (by rw [← HXX.out.2.1]; rfl)
 have y86 := hb2.cell (i := 86) (v := .slice q 0 d) (by rw [← HXX.out.2.2]; rfl)
 have HB2 := Lib.hid hb2
 have HT2 := Lib.hid hT2
 clear hW2 hb2 hT2 HB1 HT1 c74 c75 f74 f75 HB0 HT0 hr0 HTH
 have HT3 := Lib.hid (HTA.out.turn HT2.out hG1 hG2)
 have HR3 := Lib.hid (show Rd W2 (.slice (some ⟨pa, oa, none⟩) (recB g k m (cfgB x.c0)).length ca) _ _ by have := rd_turn HT2.out HRA.out (fun k hk _ => hna k hk); rw [HXX.out.2.1] at this; exact this)
 have HM2 := Lib.hid (show CfgM W2 x.c0 x.v0 x.w0 from ⟨rd_turn HT2.out HM.out.s (fun k hk _ => hn0 k hk), rd_turn HT2.out HM.out.w (fun k hk _ => hn1 k hk)⟩)
 have HLB := Lib.hid (rowsB_lt H0.out)
 have hcl := cfgB_len H0.out
 go_wp2_with fail
 refine (frec_one g k m (cfgB x.c0) _ q d _ HT3.out HR3.out (cfgB_byte H0.out) (by omega) (by omega) g1 g2 hk m1 m2).mono ?_; rintro e w3 ⟨vr, rfl, hor, hb3⟩
 obtain ⟨pr, cr, rfl⟩ := (own_rd hor).form
 have HT2b := HB2.out.lt
 have hb3s : W2.heap.size ≤ w3.heap.size := hb3.size
 have hb4 := (HB2.out.kept hb3).alloc (.cells #[.int .i64 g, .int .i64 k, .int .i64 m, .slice pr (cfgB x.c0).length cr] 70)
 have hR4 := BlockIs.new w3 #[.int .i64 g, .int .i64 k, .int .i64 m, .slice pr (cfgB x.c0).length cr] 70
 have hT4 := (HT2.out.trans (Turn.of hb3)).alloc (.cells #[.int .i64 g, .int .i64 k, .int .i64 m, .slice pr (cfgB x.c0).length cr] 70)
 have y0 := hR4.cell (i := 0) (v := .int .i64 g) rfl
 have y75 := hb4.cell (i := 75) (v := .int .i64 0) rfl
 have z75 := hb4.free 75
 have HB4 := Lib.hid hb4
 have HT4 := Lib.hid hT4
 have HR4 := Lib.hid hR4
 have HOR := Lib.hid hor
 clear y85 y86 HB2 HT2 hb4 hT4 hR4 hor
 go_upto_region 5 with fail
 have hb5 : BlockIs _ b (twA { x with c := x.c0, v := x.v0, w := x.w0, own := false, gen := g }) 81 := HB4.out.set 75 (.int .i64 g)
 have hT5 := HT4.out.setCell rfl 75 (.int .i64 g)
 have hltb := HB4.out.lt
 have hW2b : b < W2.heap.size := by have := HT2b; exact this
 have hR5 := HR4.out.other (a := ⟨b, 75, none⟩) (by show w3.heap.size ≠ b; have := hb3s; omega) (.int .i64 g)
 have hO5 := (((Turn.refl (fun k => k = b) w3).alloc (.cells #[.int .i64 g, .int .i64 k, .int .i64 m, .slice pr (cfgB x.c0).length cr] 70)).setCell rfl 75 (.int .i64 g)).own HOR.out (fun k hk => by have := (HOR.out.lt k hk).1; omega)
 obtain ⟨W5, hW5⟩ : ∃ W5, (w3.alloc (.cells #[.int .i64 g, .int .i64 k, .int .i64 m, .slice pr (cfgB x.c0).length cr] 70)).setCell ⟨b, 75, none⟩ (.int .i64 g) = W5 := ⟨_, rfl⟩
 rw [hW5] at hb5 hT5 hR5 hO5
 rw [hW5]
 have y3 := hR5.cell (i := 3) (v := .slice pr (cfgB x.c0).length cr) rfl
 have HB5 := Lib.hid hb5
 have HT5 := Lib.hid hT5
 have HR5 := Lib.hid (own_rd hO5)
 have HTA5 := Lib.hid (HTA.out.turn hT5 hG1 hG2)
 clear y0 y75 z75 HB4 HT4 HR4 HOR hW5 hb5 hT5 hR5 hO5
 go_wp2_with fail
 refine (decode_ok x.c0 _ _ HTA5.out H0.out HR5.out).mono ?_; rintro e w6 ⟨v1, w1, rfl, ho1, ho2, hb6⟩
 obtain ⟨p1, q1, rfl⟩ := (own_rd ho1).form
 obtain ⟨p2, q2, rfl⟩ := (own_rd ho2).form
 have hs6 := hb6.size
 have hb7 := (HB5.out.kept hb6).alloc (.cells cfgZ 33)
 have hT7 := (HT5.out.trans (Turn.of hb6)).alloc (.cells cfgZ 33)
 have hD7 := BlockIs.new w6 cfgZ 33
 have hltb6 := (HB5.out.kept hb6).lt
 have hb8 := hb7.rowOther (b' := w6.heap.size) (by omega) (cfgA x.c0 (.slice p1 x.c0.st.length q1) (.slice p2 1 q2))
 have hD8 := hD7.row (cfgA x.c0 (.slice p1 x.c0.st.length q1) (.slice p2 1 q2))
 have hX8 : Turn (fun k => k = w6.heap.size) w6 ((w6.alloc (.cells cfgZ 33)).setRow w6.heap.size (cfgA x.c0 (.slice p1 x.c0.st.length q1) (.slice p2 1 q2))) := ((Turn.refl (fun k => k = w6.heap.size) w6).alloc _).setRow rfl _
 have hT8 : Turn (fun k => k = b) w ((w6.alloc (.cells cfgZ 33)).setRow w6.heap.size (cfgA x.c0 (.slice p1 x.c0.st.length q1) (.slice p2 1 q2))) :=
  (HT5.out.trans (Turn.of hb6)).trans (Turn.of (hX8.below (Nat.le_refl _) (by intro k hk; omega)))
 have hC8 : CfgM ((w6.alloc (.cells cfgZ 33)).setRow w6.heap.size (cfgA x.c0 (.slice p1 x.c0.st.length q1) (.slice p2 1 q2))) x.c0 (.slice p1 x.c0.st.length q1) (.slice p2 1 q2) :=
  ⟨(own_rd ho1).below (hX8.below (Nat.le_refl _) (by intro k hk; omega)), (own_rd ho2).below (hX8.below (Nat.le_refl _) (by intro k hk; omega))⟩
 obtain ⟨W8, hW8⟩ : ∃ W8, (w6.alloc (.cells cfgZ 33)).setRow w6.heap.size (cfgA x.c0 (.slice p1 x.c0.st.length q1) (.slice p2 1 q2)) = W8 := ⟨_, rfl⟩
 rw [hW8] at hb8 hD8 hT8 hC8
 have hwW5 : w.heap.size ≤ W5.heap.size := HT5.out.size
 have HN1 := Lib.hid (show ∀ k, (Value.slice p1 x.c0.st.length q1).ownBlock = some k → w.heap.size ≤ k from fun k hk => by have := (ho1.lt k hk).1; omega)
 have HN2 := Lib.hid (show ∀ k, (Value.slice p2 1 q2).ownBlock = some k → w.heap.size ≤ k from fun k hk => by have := (ho2.lt k hk).1; omega)
 have HD7 := Lib.hid hD7
 have HW8 := Lib.hid hW8
 have HB8 := Lib.hid hb8
 have HD8 := Lib.hid hD8
 have HT8 := Lib.hid hT8
 have HC8 := Lib.hid hC8
 clear y3 HB5 HT5 HR5 HTA5 ho1 ho2 hb6 hb7 hT7 hD7 hb8 hD8 hX8 hT8 hC8 hW8
 go_upto_region 6 with ((with_reducible show wpList _ _ _ _ _ _); refine ws_box (.tmp 6) (.tmp 44) x.c0 (.slice p1 x.c0.st.length q1) (.slice p2 1 q2) w6.heap.size cfgZ 33 rfl rfl rfl rfl HD7.out rfl rfl rfl ?_)
 change Code.wp _ _ _ _ ((w6.alloc (.cells cfgZ 33)).setRow w6.heap.size (cfgA x.c0 (.slice p1 x.c0.st.length q1) (.slice p2 1 q2)))
 rw [HW8.out]
 have hd := (Below.refl W8.heap.size W8).drew
 have HSS := Lib.hid (show ∀ W', Below W8.heap.size W8 W' → W'.rangeAt b 0 (cfgA x.c0 x.v0 x.w0).toList ∧ W'.rangeAt w6.heap.size 0 (cfgA x.c0 (.slice p1 x.c0.st.length q1) (.slice p2 1 q2)).toList from fun W' hh => ⟨block_sub (HB8.out.kept hh) 0 37, block_sub (HD8.out.kept hh) 0 37⟩)
 have HM8 := Lib.hid (show CfgM W8 x.c0 x.v0 x.w0 from ⟨rd_turn HT8.out HM.out.s (fun k hk _ => hn0 k hk), rd_turn HT8.out HM.out.w (fun k hk _ => hn1 k hk)⟩)
 refine wp_region_held_drew (S := fun W' => W'.rangeAt b 0 (cfgA x.c0 x.v0 x.w0).toList ∧ W'.rangeAt w6.heap.size 0 (cfgA x.c0 (.slice p1 x.c0.st.length q1) (.slice p2 1 q2)).toList) (by kernel_rfl) (HSS.out _ hd) (fun hHeld => ?_)
 refine tkH 0 ?_
 try simp only [pt]
 refine tkH 1 ?_
 try simp only [pt]
 refine tkH 2 ?_
 try simp only [pt]
 refine tkH 3 ?_
 try simp only [pt]
 refine tkH 4 ?_
 try simp only [pt]
 refine tkH 5 ?_
 try simp only [pt]
 refine tkH 6 ?_ (hy := by (intro w hSw; refine load_x 33 (.tmp 51) (cfgA x.c0 x.v0 x.w0).toList _ 0 _ Tryz.underlying33 rfl cfg_info ?_ ?_ w (hSw.1) <;> rfl))
 try simp only [pt]
 refine tkH 7 ?_ (hy := by (intro w hSw; refine load_x 33 (.tmp 6) (cfgA x.c0 (.slice p1 x.c0.st.length q1) (.slice p2 1 q2)).toList _ 0 _ Tryz.underlying33 rfl cfg_info ?_ ?_ w (hSw.2) <;> rfl))
 try simp only [pt]
 refine rdy [8] ?_
 refine' arC rfl (fun KK hKK => ?a8) AllReadyH.nil
 go_simp
 refine (kFits_ok x.c0 x.v0 x.w0 _ _ _ H0.out (HM8.out.below hd) (HC8.out.below hd)).mono ?_; rintro e w9 ⟨rfl, hb9⟩; have hB9 := hd.trans (hb9.mono hd.size)
 refine hKK.out _ _ (HSS.out _ hB9) (fun _ => ?_)
 clear hKK KK
 try simp only [pt]
 refine tkH 9 ?_
 try simp only [pt]
 refine wpAnyH_done (by kernel_rfl) ?_ _
 have HB9 := Lib.hid (HB8.out.kept hB9)
 have HD9 := Lib.hid (HD8.out.kept hB9)
 have HT9 := Lib.hid (HT8.out.trans (Turn.of hB9))
 have HC9 := Lib.hid (HC8.out.below hB9)
 clear hHeld hd HSS HM8 hB9 hb9 HB8 HD8 HT8 HC8
 have hr9 : w9.rangeAt w6.heap.size 0 (cfgA x.c0 (.slice p1 x.c0.st.length q1) (.slice p2 1 q2)).toList := block_sub HD9.out 0 37
 have HTH := Lib.hid (there_of HB9.out 37 37 (by show 37 + 37 ≤ 87; omega))
 have HT10 := Lib.hid (turn_setCells (T := fun k => k = b) rfl (cfgA x.c0 (.slice p1 x.c0.st.length q1) (.slice p2 1 q2)).toList 37 _ HT9.out)
 have HX10 := Lib.hid (turn_setCells (T := fun k => k = b) rfl (cfgA x.c0 (.slice p1 x.c0.st.length q1) (.slice p2 1 q2)).toList 37 _ (Turn.refl (fun k => k = b) w9))
 have HB10 := Lib.hid (tw_cfg HB9.out x.c0 (.slice p1 x.c0.st.length q1) (.slice p2 1 q2))
 go_upto_region 8 with (first
  | ((with_reducible show wpList _ _ _ _ _ _); refine wl_cfg (.tmp 6) x.c0 (.slice p1 x.c0.st.length q1) (.slice p2 1 q2) w6.heap.size 0 ?_ ?_ ?_ hr9 ?_; rfl; rfl; rfl)
  | ((with_reducible show wpList _ _ _ _ _ _); refine ws_at 33 (.tmp 60) (.tmp 58) b 37 (cfgA x.c0 (.slice p1 x.c0.st.length q1) (.slice p2 1 q2)) rfl rfl rfl rfl 37 rfl HTH.out cfg_info (tcfg_one _ _ _ rfl rfl) ?_; intro W11 hW11; (have hb11 := HB10.out); (have hT11 := HT10.out); (have hX11 := HX10.out); (rw [← hW11.out] at hb11 hT11 hX11); (have c74 := hb11.cell (i := 74) (v := .bool false) rfl); (have f74 := hb11.free 74); (have HB11 := Lib.hid hb11); (have HT11 := Lib.hid hT11); (have HX11 := Lib.hid hX11); clear hW11 hb11 hT11 hX11))
 have hb12 : BlockIs _ b (twA { x with c := x.c0, v := .slice p1 x.c0.st.length q1, w := .slice p2 1 q2, own := true, gen := g }) 81 := HB11.out.set 74 (.bool true)
 have hT12 := HT11.out.setCell rfl 74 (.bool true)
 have hX12 := HX11.out.setCell rfl 74 (.bool true)
 obtain ⟨W12, hW12⟩ : ∃ W12, W11.setCell ⟨b, 74, none⟩ (.bool true) = W12 := ⟨_, rfl⟩
 rw [hW12] at hb12 hT12 hX12
 rw [hW12]
 have y76 := hb12.cell (i := 76) rfl
 have y77 := hb12.cell (i := 77) rfl
 have y78 := hb12.cell (i := 78) rfl
 have y79 := hb12.cell (i := 79) rfl
 have y80 := hb12.cell (i := 80) rfl
 have z76 := hb12.free 76
 have z77 := hb12.free 77
 have z78 := hb12.free 78
 have z79 := hb12.free 79
 have z80 := hb12.free 80
 have HB12 := Lib.hid hb12
 have HT12 := Lib.hid hT12
 have HX12 := Lib.hid hX12
 clear hb12 hT12 hX12 hW12 HB11 HT11 HX11 c74 f74 hr9 HTH HT10 HB10 HX10 HB9 HD9
 go_wp2_with fail
 have hb5a : BlockIs _ b (twA { x with c := x.c0, v := .slice p1 x.c0.st.length q1, w := .slice p2 1 q2, own := true, gen := g, st := false, hs := false }) 81 := (HB12.out.set 76 (.bool false)).set 77 (.bool false)
 have hb5b : BlockIs _ b (twA { x with c := x.c0, v := .slice p1 x.c0.st.length q1, w := .slice p2 1 q2, own := true, gen := g, st := false, hs := false, now := 0, cand := 0 }) 81 := (hb5a.set 78 (.int .i64 0)).set 79 (.int .i64 0)
 have hb5 : BlockIs _ b (twA { x with c := x.c0, v := .slice p1 x.c0.st.length q1, w := .slice p2 1 q2, own := true, gen := g, st := false, hs := false, now := 0, cand := 0, mode := 3 }) 81 := hb5b.set 80 (.int .i64 3)
 have hT5 := ((((HT12.out.setCell rfl 76 (.bool false)).setCell rfl 77 (.bool false)).setCell rfl 78 (.int .i64 0)).setCell rfl 79 (.int .i64 0)).setCell rfl 80 (.int .i64 3)
 have hX5 := ((((HX12.out.setCell rfl 76 (.bool false)).setCell rfl 77 (.bool false)).setCell rfl 78 (.int .i64 0)).setCell rfl 79 (.int .i64 0)).setCell rfl 80 (.int .i64 3)
 have HT5 := Lib.hid hT5
 have HX5 := Lib.hid hX5
 refine (tanew_ok b lb n cap { x with c := x.c0, v := .slice p1 x.c0.st.length q1, w := .slice p2 1 q2, own := true, gen := g, st := false, hs := false, now := 0, cand := 0, mode := 3 } _ hb5 (HLI.out.turn hT5 hne) HXX.out.1 hn hne).mono ?_; rintro e w20 ⟨rfl, hb6, hT6⟩
 have HB6 := Lib.hid hb6
 have HT6 := Lib.hid (HT5.out.trans hT6)
 have HX6 := HX5.out.trans hT6
 have HC20 := Lib.hid (show CfgM w20 x.c0 (.slice p1 x.c0.st.length q1) (.slice p2 1 q2) from ⟨rd_turn HX6 HC9.out.s (fun k hk _ => by have := HN1.out k hk; omega), rd_turn HX6 HC9.out.w (fun k hk _ => by have := HN2.out k hk; omega)⟩)
 clear hb5 hb5a hb5b hT5 hX5 HT5 HX5 hb6 hT6 HB12 HT12 HX12 HX6 y76 y77 y78 y79 y80 z76 z77 z78 z79 z80
 go_wp2_with fail
 go_end0
 exact ⟨_, _, rfl, HB6.out, HC20.out, HN1.out, HN2.out, HT6.out⟩
def twN (c : Cfg) (v w lf fa fb : Value) : Tw := { c0 := c, v0 := v, w0 := w, c := cfg0, v := .slice none 0 0, w := .slice none 0 0, own := false, gen := 0, st := false, hs := false, now := 0, cand := 0, mode := 0, age := 0, lf := lf, ha := .slice none 0 0, hi := .slice none 0 0, fa := fa, fb := fb }
set_option maxRecDepth 100000 in
theorem build_tower (c : Cfg) (v w : Value) (W : World) : (Instr.build 81 #[(0, .agg (cfgA c v w))]).run Tryz.prog W = .ok (.agg (twA (twN c v w (.slice none 0 0) (.slice none 0 0) (.slice none 0 0)))) W := by kernel_rfl
theorem wl_build_tower {ops : Array Oper} {rest : List Oper} {op : Oper} {a : Act} {W : World} {Q : Exit → Act → World → Prop} (y : Operand) (c : Cfg) (v w : Value) (ho : op.op = .build 81 #[(0, y)]) (hw : Region.wanted op (yielded ops a.tmps) = true) (hx : a.eval y = .agg (cfgA c v w))
  (h : wpList Tryz.prog ops Q rest (a.put op.dst (.agg (twA (twN c v w (.slice none 0 0) (.slice none 0 0) (.slice none 0 0))))) W) : wpList Tryz.prog ops Q (op :: rest) a W :=
 BigFrame.wpList_want hw fun K hK => by
  unfold Oper.wp execOp
  simp only [ho, List.map_toArray, List.map_cons, List.map_nil, hx, Sem.run_bind, Sem.run_pure, Result.andThen_ok, build_tower]
  exact hK _ _ h
end Go.Proofs.YtfnifgppblbjhaaGreatDoor
namespace Go.Proofs.YtfnifgppblbjhaaGreatDoor
set_option maxHeartbeats 8000000
open Go Go.RowKit
set_option linter.unusedVariables false
def spK (sp : Int → Option Sp) (d : Int) : Nat → List Sp
 | 0 => []
 | k + 1 => spK sp d k ++ (sp (d + k)).toList
theorem spK_mem {sp : Int → Option Sp} {d : Int} {s : Sp} : ∀ k, s ∈ spK sp d k ↔ ∃ j : Nat, j < k ∧ sp (d + j) = some s
 | 0 => by simp [spK]
 | k + 1 => by
  rw [spK, List.mem_append, spK_mem k]
  constructor
  ·rintro (⟨j, hj, e⟩ | h)
   ·exact ⟨j, by omega, e⟩
   ·exact ⟨k, by omega, by simpa using h⟩
  ·rintro ⟨j, hj, e⟩
   by_cases c : j = k
   ·subst c; right; simp [e]
   ·left; exact ⟨j, by omega, e⟩
theorem spK_len (sp : Int → Option Sp) (d : Int) : ∀ k, (spK sp d k).length ≤ k
 | 0 => by simp [spK]
 | k + 1 => by
  have := spK_len sp d k
  rw [spK, List.length_append]
  cases sp (d + k) <;> simp <;> omega
theorem restSpan_one {base mi ln : Int} {f : Nat → Int} {ab : Bool} {D : Int} {s s' : Sp} (h : RestSpan base mi ln f ab D s) (h' : RestSpan base mi ln f ab D s') : s.a = s'.a ∧ s.b = s'.b := by
 obtain ⟨b, r1, r2, b1, b2, hin, hb, ea, eb⟩ := h
 obtain ⟨b', r1', r2', b1', b2', hin', hb', ea', eb'⟩ := h'
 have e : b = b' := by
  by_cases c : b < b'
  ·exact (hb (hin' (b + 1) (by omega) (by omega))).elim
  ·by_cases c' : b' < b
   ·exact (hb' (hin (b' + 1) (by omega) (by omega))).elim
   ·omega
 subst e
 exact ⟨by omega, by omega⟩
def RestOpt (base mi ln : Int) (f : Nat → Int) (ab : Bool) (D : Int) : Option Sp → Prop
 | some s => RestSpan base mi ln f ab D s
 | none => ¬ ∃ s, RestSpan base mi ln f ab D s
theorem noon_cov {base mi ln : Int} {f : Nat → Int} {ab : Bool} {n : Int} {sp : Int → Option Sp} (hs : ∀ D, n - 9 ≤ D → D ≤ n + 1 → RestOpt base mi ln f ab D (sp D)) (hi : SunIn f) (h1 : 1000 ≤ n) (h2 : n ≤ 3651000) (m1 : 0 ≤ mi) (m2 : mi ≤ 180) (l1 : 0 ≤ ln) (l2 : ln ≤ 180) :
  cov (spK sp (n - 9) 11) (n * 1440 + 719 - base) = true ↔ RestP n ab := by
 rw [cov_iff]
 constructor
 ·rintro ⟨s, hm, t1, t2⟩
  obtain ⟨j, hj, e⟩ := (spK_mem 11).1 hm
  have hr := hs (n - 9 + j) (by omega) (by omega)
  rw [e] at hr
  exact restSpan_noon hr hi (by omega) (by omega) m1 m2 l1 l2 t1 t2
 ·intro hr
  obtain ⟨D, s, d1, d2, hs', t1, t2⟩ := noon_restSpan (base := base) hr hi h1 (by omega) m1 m2 l1 l2
  obtain ⟨j, hj⟩ : ∃ j : Nat, n - 9 + j = D := ⟨(D - (n - 9)).toNat, by omega⟩
  have ho := hs D (by omega) (by omega)
  cases hsp : sp D with
  | none => rw [hsp] at ho; exact (ho ⟨s, hs'⟩).elim
  | some s2 =>
   rw [hsp] at ho
   obtain ⟨e1, e2⟩ := restSpan_one hs' ho
   exact ⟨s2, (spK_mem 11).2 ⟨j, by omega, by rw [hj]; exact hsp⟩, by omega, by omega⟩
end Go.Proofs.YtfnifgppblbjhaaGreatDoor
namespace Go.Proofs.YtfnifgppblbjhaaGreatDoor
set_option maxHeartbeats 8000000
open Go Go.RowKit
set_option linter.unusedVariables false
set_option linter.unusedSimpArgs false
theorem blk_rg {w : World} {g : Nat} {cs : Array Value} {t : TypeId} (h : BlockIs w g cs t) : w.rangeAt g 0 cs.toList := fun j v hv => by
 rw [Nat.zero_add]; exact h.cell (by simpa using hv)
theorem wreck_ok (D : Int) (w : World) (h1 : 402 ≤ D) (h2 : D ≤ 3651990) : Calls Tryz.prog 268 #[.int .i64 D] w fun e w' => e = .returned (.bool true) ∧ w = w' := by
 go_enter Tryz.func268, Tryz.ntmps268
 go_wp2_with fail
 go_ret
 exact ⟨rfl, rfl⟩
theorem wof_rest (x : Wn) (w : World) (h : x.k = 4) : Calls Tryz.prog 269 #[.agg (wnA x)] w fun e w' => e = .returned (.iface 405 (.agg #[])) ∧ Below w.heap.size w w' := by
 have hW := BlockIs.new w (wnA x) 35
 have HB := ((Below.refl w.heap.size w).alloc (by exact Nat.le_refl _) (.cells (wnA x) 35))
 have c0 := hW.cell (i := 0) (v := .int .i64 4) (by rw [← h]; rfl)
 clear hW h
 go_enter Tryz.func269, Tryz.ntmps269
 go_wp2_with fail
 go_ret
 exact ⟨rfl, HB⟩
theorem wof_week (x : Wn) (w : World) (h : x.k = 1) : Calls Tryz.prog 269 #[.agg (wnA x)] w fun e w' => e = .returned (.iface 402 (.agg #[])) ∧ Below w.heap.size w w' := by
 have hW := BlockIs.new w (wnA x) 35
 have HB := ((Below.refl w.heap.size w).alloc (by exact Nat.le_refl _) (.cells (wnA x) 35))
 have c0 := hW.cell (i := 0) (v := .int .i64 1) (by rw [← h]; rfl)
 clear hW h
 go_enter Tryz.func269, Tryz.ntmps269
 go_wp2_with fail
 go_ret
 exact ⟨rfl, HB⟩
theorem wmom_plain (z : Zn) (D u : Int) (w : World) (ht : Tab w) (hz : zErr z = 0) (hs : z.s = 0) (h1 : 402 ≤ D) (h2 : D ≤ 3651990) (u1 : 0 ≤ u) (u2 : u ≤ 1439) :
  Calls Tryz.prog 326 #[.agg (zoneA z), .int .i64 D, .int .i64 u] w fun e w' => e = .returned (.tuple #[.int .i64 (D * 1440 + u - z.b), .int .i64 0]) ∧ Below w.heap.size w w' := by
 have hZ := BlockIs.new w (zoneA z) 28
 have HB := ((Below.refl w.heap.size w).alloc (by exact Nat.le_refl _) (.cells (zoneA z) 28))
 have HZ := Lib.hid hZ
 have HT := Lib.hid (ht.below HB)
 have hr : (w.alloc (.cells (zoneA z) 28)).rangeAt w.heap.size 0 (zoneA z).toList := blk_rg hZ
 have q1 : (D * 1440 + u) / 1440 = D := by omega
 have q2 : u % 1440 = u := by omega
 have HQ := Lib.hid (And.intro q1 q2)
 have hsh := Lib.hid (show shiftV z (D * 1440 + u - z.b) = 0 by unfold shiftV; rw [hs]; simp)
 have hzb := zErr_b hz
 clear hZ ht q1 q2
 go_enter Tryz.func326, Tryz.ntmps326
 go_wp2_with ((with_reducible show wpList _ _ _ _ _ _); refine load_zone (.tmp 3) z w.heap.size 0 rfl rfl rfl hr ?_)
 refine (zcheck_z z _ hz).mono ?_; rintro e w1 ⟨rfl, hb1⟩
 have HZ1 := Lib.hid (HZ.out.kept hb1)
 have HT1 := Lib.hid (HT.out.below hb1)
 have hr1 : w1.rangeAt w.heap.size 0 (zoneA z).toList := blk_rg HZ1.out
 have HB1 := HB.trans (hb1.mono HB.size)
 clear hr HZ HT hb1 HB
 go_wp2_with (go_at_call 268; refine (wreck_ok D _ h1 h2).mono ?_; rintro e w' ⟨rfl, rfl⟩)
 go_loopw [9] (fun x wr => x = .int .i64 (D * 1440 + u) ∧ w1 = wr) (fun _ _ => 0)
 case atStart => exact ⟨rfl, rfl⟩
 case round =>
  obtain ⟨rfl, rfl⟩ := hrel
  go_wp2_with ((with_reducible show wpList _ _ _ _ _ _); refine load_zone (.tmp 3) z w.heap.size 0 rfl rfl rfl hr1 ?_)
  rw [HQ.out.1, HQ.out.2]
  refine (zinst_plain z.b z.s z.m z.k z.d z.t z.m' z.k' z.d' z.t' D u (D * 1440 + u - z.b) _ HT1.out hz ⟨by omega, by omega, u1, u2⟩ rfl hs hsh.out).mono ?_; rintro e w2 ⟨out, rfl, hown, hb2⟩
  obtain ⟨g, cp, rfl, hg1, hg2⟩ := hown.form (by omega)
  have c0 : w2.cell? ⟨g, 0, none⟩ = some (.int .i64 (D * 1440 + u - z.b)) := by
   rcases hown.2 with ⟨h, _⟩ | ⟨g', cap, cur, e1, e2, e3, e4, e5, e6, e7⟩
   ·cases h
   ·cases e1
    refine BlockIs.cell (show BlockIs w2 g cur 3 from e3) ?_
    rw [← Array.getElem?_toList]
    have : (cur.toList.take 1)[0]? = some (.int .i64 (D * 1440 + u - z.b)) := by
     have := e7; rw [Nat.one_mul] at this; rw [this]; rfl
    rwa [List.getElem?_take, if_pos (by omega)] at this
  have HB2 := Lib.hid (HB1.trans (hb2.mono HB1.size))
  clear hb2 hown HB1 HT1 HZ1 hr1
  go_wp2_with fail
  go_ret2
  exact ⟨rfl, HB2.out⟩
end Go.Proofs.YtfnifgppblbjhaaGreatDoor
