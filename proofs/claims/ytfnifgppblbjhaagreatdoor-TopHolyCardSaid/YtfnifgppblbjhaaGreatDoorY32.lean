/- Part of the proof of TopHoly. -/
import Derived.Test.YtfnifgppblbjhaaGreatDoorY01
import Derived.Test.YtfnifgppblbjhaaGreatDoorY22
import Derived.Test.YtfnifgppblbjhaaGreatDoorY27
import Derived.Test.YtfnifgppblbjhaaGreatDoorY31
namespace Go.Proofs.YtfnifgppblbjhaaGreatDoor
set_option maxHeartbeats 8000000
open Go Go.RowKit
set_option linter.unusedVariables false
set_option linter.unusedSimpArgs false
set_option maxRecDepth 100000 in
theorem tupload_ok (b lb n cap : Nat) (x : Tw) (ck : Int) (vu : Value) (p q : Option Addr) (fc fd : Nat) (w : World) (hT : TwC w b lb n cap x) (h0 : CfgOk x.c0) (hcc : x.c.ca = x.c0.ca) (hm : CfgM w x.c0 x.v0 x.w0) (hn0 : ∀ k, x.v0.ownBlock = some k → k ≠ b) (hn1 : ∀ k, x.w0.ownBlock = some k → k ≠ b) (hg : x.gen = 0) (hk : I64 x.now) (m1 : 0 ≤ x.mode) (m2 : x.mode ≤ 5) (hfa : x.fa = .slice p 0 fc) (hfb : x.fb = .slice q 0 fd)
  (hvu : Rd w vu (cfgB x.c0).length (bts (cfgB x.c0))) (hnu : ∀ k, vu.ownBlock = some k → k ≠ b) :
  Calls Tryz.prog 21 #[.pointer (some ⟨b, 0, none⟩), .agg (inA true ck vu)] w fun e w' => ∃ v1 w1 fa fb, e = .returned (.tuple #[.bool true, .int .i64 0]) ∧ TwC w' b lb n cap { x with c := x.c0, v := v1, w := w1, own := true, gen := 1, fa := fa, fb := fb } ∧ TwV w' b lb { x with c := x.c0, v := v1, w := w1, own := true, gen := 1, fa := fa, fb := fb } ∧ TwF w' b lb { x with c := x.c0, v := v1, w := w1, own := true, gen := 1, fa := fa, fb := fb } 1 x.now x.mode (cfgB x.c0) ∧ Turn (fun k => k = b) w w' := by
 obtain ⟨hb, hli, hlf, hca, hne, ht, hG1, hG2, hL1, hL2⟩ := hT
 obtain ⟨pu, cu, rfl⟩ := hvu.form
 have hI := BlockIs.new w (inA true ck (.slice pu (cfgB x.c0).length cu)) 54
 have HB := ((Below.refl w.heap.size w).alloc (by exact Nat.le_refl _) (.cells (inA true ck (.slice pu (cfgB x.c0).length cu)) 54))
 have hb0 := hb.kept HB
 have hltI := hI.lt
 have hltb := hb.lt
 have i9 := hI.cell (i := 9) (v := .slice pu (cfgB x.c0).length cu) rfl
 have HX := Lib.hid (And.intro hfa (And.intro hfb (And.intro hg hlf)))
 have HI := Lib.hid hI
 have Hb := Lib.hid hb0
 have HTA := Lib.hid (ht.below HB)
 have HM := Lib.hid (hm.below HB)
 have HL := Lib.hid (hli.turn (T := fun k => k = b) (Turn.of HB) hne)
 have HVU := Lib.hid (hvu.below HB)
 have HNU := Lib.hid hnu
 have HN0 := Lib.hid hn0
 have HN1 := Lib.hid hn1
 have H0 := Lib.hid h0
 have HTT := Lib.hid (Turn.of (T := fun k => k = b) HB)
 have hcl := cfgB_len h0
 have HBY := Lib.hid (cfgB_byte h0)
 have hlb : lb < w.heap.size := World.block_lt_of_cell? w _ (hli.at' 0 (Nat.le_refl _) (by have := h0.ca1; omega) 0 _ rfl)
 have e1 : x.gen + 1 = 1 := by omega
 clear hfa hfb hg hlf hI hb hb0 ht hm hli hvu hnu hn0 hn1 h0 HB
 go_enter Tryz.func21, Tryz.ntmps21
 go_wp2_with fail
 refine (decode_ok x.c0 _ _ HTA.out H0.out HVU.out).mono ?_; rintro e w6 ⟨v1, w1, rfl, ho1, ho2, hb6⟩
 obtain ⟨p1, q1, rfl⟩ := (own_rd ho1).form
 obtain ⟨p2, q2, rfl⟩ := (own_rd ho2).form
 have hs6 := hb6.size
 have hlt6 := (Hb.out.kept hb6).lt
 have hb7 := (Hb.out.kept hb6).alloc (.cells cfgZ 33)
 have hI7 := (HI.out.kept hb6).alloc (.cells cfgZ 33)
 have hD7 := BlockIs.new w6 cfgZ 33
 have hltI6 := (HI.out.kept hb6).lt
 have hb8 := hb7.rowOther (b' := w6.heap.size) (by omega) (cfgA x.c0 (.slice p1 x.c0.st.length q1) (.slice p2 1 q2))
 have hI8 := hI7.rowOther (b' := w6.heap.size) (by omega) (cfgA x.c0 (.slice p1 x.c0.st.length q1) (.slice p2 1 q2))
 have hD8 := hD7.row (cfgA x.c0 (.slice p1 x.c0.st.length q1) (.slice p2 1 q2))
 have hX8 : Turn (fun k => k = w6.heap.size) w6 ((w6.alloc (.cells cfgZ 33)).setRow w6.heap.size (cfgA x.c0 (.slice p1 x.c0.st.length q1) (.slice p2 1 q2))) := ((Turn.refl (fun k => k = w6.heap.size) w6).alloc _).setRow rfl _
 have hbe8 := hX8.below (B := w6.heap.size) (Nat.le_refl _) (by intro k hk; omega)
 obtain ⟨W8, hW8⟩ : ∃ W8, (w6.alloc (.cells cfgZ 33)).setRow w6.heap.size (cfgA x.c0 (.slice p1 x.c0.st.length q1) (.slice p2 1 q2)) = W8 := ⟨_, rfl⟩
 rw [hW8] at hb8 hI8 hD8 hbe8
 have hT8 := HTT.out.trans ((Turn.of hb6).trans (Turn.of hbe8))
 have hlow8 := hb6.trans (hbe8.mono hs6)
 have HN1' := Lib.hid (show ∀ k, (Value.slice p1 x.c0.st.length q1).ownBlock = some k → w.heap.size < k ∧ k < w6.heap.size from fun k hk => by have h1 := ho1.lt k hk; have h2 : w.heap.size < (w.alloc (.cells (inA true ck (.slice pu (cfgB x.c0).length cu)) 54)).heap.size := hltI; omega)
 have HN2' := Lib.hid (show ∀ k, (Value.slice p2 1 q2).ownBlock = some k → w.heap.size < k ∧ k < w6.heap.size from fun k hk => by have h1 := ho2.lt k hk; have h2 : w.heap.size < (w.alloc (.cells (inA true ck (.slice pu (cfgB x.c0).length cu)) 54)).heap.size := hltI; omega)
 have HC8 := Lib.hid (show CfgM W8 x.c0 (.slice p1 x.c0.st.length q1) (.slice p2 1 q2) from ⟨(own_rd ho1).below hbe8, (own_rd ho2).below hbe8⟩)
 have HD7 := Lib.hid hD7
 have HW8 := Lib.hid hW8
 have HB8 := Lib.hid hb8
 have HI8 := Lib.hid hI8
 have HD8 := Lib.hid hD8
 have HT8 := Lib.hid hT8
 have HL8 := Lib.hid (HL.out.turn (T := fun k => k = b) (Turn.of hlow8) hne)
 have HM8 := Lib.hid (HM.out.below hlow8)
 have HVU8 := Lib.hid (HVU.out.below hlow8)
 have HTA8 := Lib.hid (HTA.out.below hlow8)
 have hs8 := hlow8.size
 have hltD := hD8.lt
 clear i9 HI Hb HTA HM HL HVU HTT ho1 ho2 hb6 hb7 hI7 hD7 hb8 hI8 hD8 hX8 hbe8 hT8 hlow8 hW8
 go_upto_region 2 with ((with_reducible show wpList _ _ _ _ _ _); refine ws_box (.tmp 6) (.tmp 12) x.c0 (.slice p1 x.c0.st.length q1) (.slice p2 1 q2) w6.heap.size cfgZ 33 rfl rfl rfl rfl HD7.out rfl rfl rfl ?_)
 change Code.wp _ _ _ _ ((w6.alloc (.cells cfgZ 33)).setRow w6.heap.size (cfgA x.c0 (.slice p1 x.c0.st.length q1) (.slice p2 1 q2)))
 rw [HW8.out]
 go_upto_region 4 with fail
 have hd := (Below.refl W8.heap.size W8).drew
 have HSS := Lib.hid (show ∀ W', Below W8.heap.size W8 W' → W'.rangeAt b 0 (cfgA x.c0 x.v0 x.w0).toList ∧ W'.rangeAt w6.heap.size 0 (cfgA x.c0 (.slice p1 x.c0.st.length q1) (.slice p2 1 q2)).toList from fun W' hh => ⟨block_sub (HB8.out.kept hh) 0 37, block_sub (HD8.out.kept hh) 0 37⟩)
 refine wp_region_held_drew (S := fun W' => W'.rangeAt b 0 (cfgA x.c0 x.v0 x.w0).toList ∧ W'.rangeAt w6.heap.size 0 (cfgA x.c0 (.slice p1 x.c0.st.length q1) (.slice p2 1 q2)).toList) (by kernel_rfl) (HSS.out _ hd) (fun hHeld => ?_)
 refine tkH 0 ?_
 try simp only [pt]
 refine tkH 1 ?_
 try simp only [pt]
 refine tkH 2 ?_
 try simp only [pt]
 refine tkH 3 ?_ (hy := by (intro w hSw; refine load_x 33 (.tmp 21) (cfgA x.c0 x.v0 x.w0).toList _ 0 _ Tryz.underlying33 rfl cfg_info ?_ ?_ w (hSw.1) <;> rfl))
 try simp only [pt]
 refine tkH 4 ?_ (hy := by (intro w hSw; refine load_x 33 (.tmp 6) (cfgA x.c0 (.slice p1 x.c0.st.length q1) (.slice p2 1 q2)).toList _ 0 _ Tryz.underlying33 rfl cfg_info ?_ ?_ w (hSw.2) <;> rfl))
 try simp only [pt]
 refine rdy [5] ?_
 refine' arC rfl (fun KK hKK => ?a5) AllReadyH.nil
 go_simp
 refine (kFits_ok x.c0 x.v0 x.w0 _ _ _ H0.out (HM8.out.below hd) (HC8.out.below hd)).mono ?_; rintro e w9 ⟨rfl, hb9⟩; have hB9 := hd.trans (hb9.mono hd.size)
 refine hKK.out _ _ (HSS.out _ hB9) (fun _ => ?_)
 clear hKK KK
 try simp only [pt]
 refine tkH 6 ?_
 try simp only [pt]
 refine tkH 7 ?_
 try simp only [pt]
 refine wpAnyH_done (by kernel_rfl) ?_ _
 have hs9 := hB9.size
 have c75 := (HB8.out.kept hB9).cell (i := 75) (v := .int .i64 0) (by rw [← HX.out.2.2.1]; rfl)
 have i9 := (HI8.out.kept hB9).cell (i := 9) (v := .slice pu (cfgB x.c0).length cu) rfl
 have hri : w9.rangeAt w.heap.size 0 (inA true ck (.slice pu (cfgB x.c0).length cu)).toList := block_sub (HI8.out.kept hB9) 0 10
 have HB9 := Lib.hid (HB8.out.kept hB9)
 have HI9 := Lib.hid (HI8.out.kept hB9)
 have HD9 := Lib.hid (HD8.out.kept hB9)
 have HT9 := Lib.hid (HT8.out.trans (Turn.of hB9))
 have HC9 := Lib.hid (HC8.out.below hB9)
 have HL9 := Lib.hid (HL8.out.turn (T := fun k => k = b) (Turn.of hB9) hne)
 have HVU9 := Lib.hid (HVU8.out.below hB9)
 have HTA9 := Lib.hid (HTA8.out.below hB9)
 clear hHeld hd HSS hB9 hb9 HB8 HI8 HD8 HT8 HC8 HL8 HM8 HVU8 HTA8 HW8 HD7
 go_wp2_with ((with_reducible show wpList _ _ _ _ _ _); refine wl_any 54 (.tmp 3) (inA true ck (.slice pu (cfgB x.c0).length cu)).toList w.heap.size 0 _ Tryz.underlying54 rfl input_info ?_ ?_ ?_ hri ?_; rfl; rfl; rfl)
 refine (twrite_first b x (cfgB x.c0) (.slice pu (cfgB x.c0).length cu) p q fc fd true ck (.slice pu (cfgB x.c0).length cu) _ HTA9.out HB9.out HX.out.1 HX.out.2.1 HVU9.out HBY.out (by omega) (by omega) (by have := HX.out.2.2.1; omega) (by have := HX.out.2.2.1; omega) hk m1 m2 HNU.out hG1 hG2).mono ?_
 rintro e w10 ⟨va, qb, db, rfl, hB10, hR10, hT10, hN10⟩
 rw [e1] at hB10 hR10
 have hB10 := Lib.hid (show BlockIs w10 b (twA { x with gen := 1, fa := va, fb := .slice qb 0 db }) 81 from hB10)
 have HI10 := hT10.at HI9.out (by omega)
 have HD10 := hT10.at HD9.out (by omega)
 have i2 := HI10.cell (i := 2) (v := .bool false) rfl
 have hr10 : w10.rangeAt w6.heap.size 0 (cfgA x.c0 (.slice p1 x.c0.st.length q1) (.slice p2 1 q2)).toList := block_sub HD10 0 37
 have HTH := Lib.hid (there_of hB10.out 37 37 (by show 37 + 37 ≤ 87; omega))
 have HT10 := Lib.hid hT10
 have HR10 := Lib.hid hR10
 have HN10 := Lib.hid hN10
 have HX11 := Lib.hid (turn_setCells (T := fun k => k = b) rfl (cfgA x.c0 (.slice p1 x.c0.st.length q1) (.slice p2 1 q2)).toList 37 _ (Turn.refl (fun k => k = b) w10))
 have HB11 := Lib.hid (tw_cfg hB10.out x.c0 (.slice p1 x.c0.st.length q1) (.slice p2 1 q2))
 clear c75 i9 hri HB9 HI9 HD9 hB10 hT10 HI10 HD10 hR10 hN10
 go_upto_region 11 with (first
  | ((with_reducible show wpList _ _ _ _ _ _); refine wl_cfg (.tmp 6) x.c0 (.slice p1 x.c0.st.length q1) (.slice p2 1 q2) w6.heap.size 0 ?_ ?_ ?_ hr10 ?_; rfl; rfl; rfl)
  | ((with_reducible show wpList _ _ _ _ _ _); refine ws_at 33 (.tmp 46) (.tmp 43) b 37 (cfgA x.c0 (.slice p1 x.c0.st.length q1) (.slice p2 1 q2)) rfl rfl rfl rfl 37 rfl HTH.out cfg_info (tcfg_one _ _ _ rfl rfl) ?_; intro W11 hW11; (have hb11 := HB11.out); (have hX11 := HX11.out); (rw [← hW11.out] at hb11 hX11); (have c74 := hb11.cell (i := 74) (v := .bool x.own) rfl); (have f74 := hb11.free 74); (have HB12 := Lib.hid hb11); (have HX12 := Lib.hid hX11); clear hW11 hb11 hX11))
 have hb12 : BlockIs _ b (twA { x with c := x.c0, v := .slice p1 x.c0.st.length q1, w := .slice p2 1 q2, own := true, gen := 1, fa := va, fb := .slice qb 0 db }) 81 := HB12.out.set 74 (.bool true)
 have hX12 := HX12.out.setCell rfl 74 (.bool true)
 obtain ⟨W12, hW12⟩ : ∃ W12, W11.setCell ⟨b, 74, none⟩ (.bool true) = W12 := ⟨_, rfl⟩
 rw [hW12] at hb12 hX12
 rw [hW12]
 have HB13 := Lib.hid hb12
 have HX13 := Lib.hid hX12
 clear hb12 hX12 hW12 HB12 HX12 HB11 HX11 c74 f74 hr10 HTH i2
 go_wp2_with fail
 go_ret2
 have hT9 := HT10.out.trans HX13.out
 have hca1 : x.c0.ca = (n : Int) := by rw [← hcc]; exact hca
 refine ⟨_, _, _, _, rfl, ⟨HB13.out, HL9.out.turn hT9 (by omega), HX.out.2.2.2, hca1, hne, HTA9.out.turn hT9 hG1 hG2, hG1, hG2, hL1, hL2⟩, ⟨⟨rd_turn hT9 HC9.out.s (fun k hk _ => by have := HN1'.out k hk; omega), rd_turn hT9 HC9.out.w (fun k hk _ => by have := HN2'.out k hk; omega)⟩, fun k hk => by have := HN1'.out k hk; omega, fun k hk => by have := HN2'.out k hk; omega⟩, ⟨rd_turn HX13.out HR10.out (fun k hk _ => by have := HN10.out k hk; omega), fun k hk => by have := HN10.out k hk; omega, _, _, rfl⟩, HT9.out.trans hT9⟩
def ModeC (c : Cfg) (v w : Value) (t m : Int) : Prop :=
 ∀ W, Tab W → CfgM W c v w → Calls Tryz.prog 94 #[.agg (cfgA c v w), .int .i64 t] W fun e w' => (∃ f, e = .returned (.tuple #[.int .i64 m, .int .i64 f, .int .i64 0])) ∧ Below W.heap.size W w'
set_option maxRecDepth 100000 in
theorem twanted_ok (b : Nat) (x : Tw) (m : Int) (w : World) (h : BlockIs w b (twA x) 81) (ho : x.own = true) (hs : x.st = true) (ht : Tab w) (hm : CfgM w x.c x.v x.w) (hM : ModeC x.c x.v x.w x.now m) :
  Calls Tryz.prog 49 #[.pointer (some ⟨b, 0, none⟩)] w fun e w' => e = .returned (.int .i64 m) ∧ Below w.heap.size w w' := by
 have c74 := h.cell (i := 74) (v := .bool true) (by rw [← ho]; rfl)
 have c76 := h.cell (i := 76) (v := .bool true) (by rw [← hs]; rfl)
 have HM := Lib.hid hM
 have HC := Lib.hid hm
 have HT := Lib.hid ht
 have hd := (Below.refl w.heap.size w).drew
 have HSS := Lib.hid (show ∀ W', Below w.heap.size w W' → W'.rangeAt b 37 (cfgA x.c x.v x.w).toList ∧ W'.cell? ⟨b, 78, none⟩ = some (.int .i64 x.now) from fun W' hh => ⟨block_sub (h.kept hh) 37 37, (h.kept hh).cell rfl⟩)
 clear h ho hs ht hm hM
 go_enter Tryz.func49, Tryz.ntmps49
 go_upto_region 3 with fail
 clear c74 c76
 refine wp_region_held_drew (S := fun W' => W'.rangeAt b 37 (cfgA x.c x.v x.w).toList ∧ W'.cell? ⟨b, 78, none⟩ = some (.int .i64 x.now)) (by kernel_rfl) (HSS.out _ hd) (fun hHeld => ?_)
 refine tkH 0 ?_
 try simp only [pt]
 refine tkH 1 ?_
 try simp only [pt]
 refine tkH 2 ?_
 try simp only [pt]
 refine tkH 3 ?_
 try simp only [pt]
 refine tkH 5 ?_
 try simp only [pt]
 refine tkH 6 ?_
 try simp only [pt]
 refine tkH 7 ?_
 try simp only [pt]
 refine tkH 8 ?_
 try simp only [pt]
 refine tkH 9 ?_
 try simp only [pt]
 refine tkH 10 ?_
 try simp only [pt]
 refine tkH 4 ?_ (hy := by (intro w hSw; refine load_x 33 (.tmp 25) (cfgA x.c x.v x.w).toList _ 37 _ Tryz.underlying33 rfl cfg_info ?_ ?_ w (hSw.1) <;> rfl))
 try simp only [pt]
 refine rdy [11] ?_
 refine' arC rfl (fun KK hKK => ?a11) AllReadyH.nil
 go_simp
 refine (HM.out _ (HT.out.below hd) (HC.out.below hd)).mono ?_; rintro e w5 ⟨⟨f5, rfl⟩, hb5⟩; have hB5 := hd.trans (hb5.mono hd.size)
 refine hKK.out _ _ (HSS.out _ hB5) (fun _ => ?_)
 clear hKK KK
 try simp only [pt]
 refine tkH 12 ?_
 try simp only [pt]
 refine tkH 13 ?_
 try simp only [pt]
 refine tkH 14 ?_
 try simp only [pt]
 refine tkH 15 ?_
 try simp only [pt]
 refine tkH 16 ?_
 try simp only [pt]
 refine tkH 17 ?_
 try simp only [pt]
 refine tkH 18 ?_
 try simp only [pt]
 refine wpAnyH_done (by kernel_rfl) ?_ _
 have HB5 := Lib.hid hB5
 clear hHeld hd HSS hB5 hb5
 go_wp2_with fail
 go_ret
 exact ⟨rfl, HB5.out⟩
set_option maxRecDepth 100000 in
theorem ttell_ok (b lb n cap : Nat) (x : Tw) (up fr : Bool) (ck : Int) (vu : Value) (k0 m0 m : Int) (w : World) (hT : TwC w b lb n cap x) (hV : TwV w b lb x) (hF : TwF w b lb x 1 k0 m0 (cfgB x.c)) (h0 : CfgOk x.c) (ho : x.own = true) (hst : x.st = false) (hhs : x.hs = false) (hnow : x.now = 0) (hcand : x.cand = 0) (hmode : x.mode = 3) (hgen : x.gen = 1)
  (hk0 : I64 k0) (m01 : 0 ≤ m0) (m02 : m0 ≤ 5) (ck1 : 0 ≤ ck) (ck2 : ck ≤ 5258879999) (hm1 : 0 ≤ m) (hm2 : m ≤ 2) (hM : ModeC x.c x.v x.w ck m) :
  Calls Tryz.prog 22 #[.pointer (some ⟨b, 0, none⟩), .agg (inA up ck vu), .bool fr] w fun e w' => ∃ fa fb, e = .returned (.tuple #[]) ∧ TwC w' b lb n cap { x with st := true, hs := false, now := ck, cand := 0, mode := m, age := 0, ha := .slice none 0 0, hi := .slice none 0 0, gen := 2, fa := fa, fb := fb } ∧ TwV w' b lb { x with st := true, hs := false, now := ck, cand := 0, mode := m, age := 0, ha := .slice none 0 0, hi := .slice none 0 0, gen := 2, fa := fa, fb := fb } ∧ Turn (fun k => k = b) w w' := by
 obtain ⟨hb, hli, hlf, hca, hne, ht, hG1, hG2, hL1, hL2⟩ := hT
 obtain ⟨hm, hnv, hnw⟩ := hV
 obtain ⟨hra, hna, q, d, hfb⟩ := hF
 have hI := BlockIs.new w (inA up ck vu) 54
 have HB := ((Below.refl w.heap.size w).alloc (by exact Nat.le_refl _) (.cells (inA up ck vu) 54))
 have hb0 := hb.kept HB
 have hltb := hb.lt
 have hltI := hI.lt
 have hne3 : (m != 3) = true := by simp; omega
 have hn8 : n ≤ 8 := by have := h0.ca2; omega
 have hcl := cfgB_len h0
 have i0 := hI.cell (i := 0) (v := .bool true) rfl
 have HX := Lib.hid (And.intro hfb (And.intro hlf (And.intro ho hgen)))
 have HBY := Lib.hid (cfgB_byte h0)
 have H0 := Lib.hid h0
 have HM := Lib.hid hM
 have HC := Lib.hid (hm.below HB)
 have HNV := Lib.hid hnv
 have HNW := Lib.hid hnw
 have HRA := Lib.hid (hra.below HB)
 have HNA := Lib.hid hna
 have HI := Lib.hid hI
 have Hb := Lib.hid hb0
 have HL := Lib.hid (hli.turn (T := fun k => k = b) (Turn.of HB) hne)
 have HTA := Lib.hid (ht.below HB)
 have HTT := Lib.hid (Turn.of (T := fun k => k = b) HB)
 have hb1 : BlockIs (w.alloc (.cells (inA up ck vu) 54)) b (twA { x with st := false, hs := false, now := 0, cand := 0, mode := 3 }) 81 := by
  have : { x with st := false, hs := false, now := 0, cand := 0, mode := 3 } = x := by cases x; simp_all
  rw [this]; exact hb0
 have Hb1 := Lib.hid hb1
 obtain ⟨W, hW⟩ : ∃ W, w.alloc (.cells (inA up ck vu) 54) = W := ⟨_, rfl⟩
 rw [hW] at HC HRA HI Hb HL HTA HTT Hb1 HB
 have hsW : w.heap.size ≤ W.heap.size := HB.size
 have HW := Lib.hid hW
 clear hb hli hlf ht hm hnv hnw hra hna hfb hb0 hI h0 ho hst hhs hnow hcand hmode hgen hM hb1 hW
 go_enter Tryz.func22, Tryz.ntmps22
 go_upto_region 4 with fail
 rw [HW.out]
 have hd := (Below.refl W.heap.size W).drew
 have HSS := Lib.hid (show ∀ W', Below W.heap.size W W' → W'.cell? ⟨w.heap.size, 3, none⟩ = some (.int .i64 ck) from fun W' hh => (HI.out.kept hh).cell rfl)
 have y76 : W.drew.cell? ⟨b, 76, none⟩ = some (.bool false) := Hb1.out.cell (i := 76) rfl
 have y77 : W.drew.cell? ⟨b, 77, none⟩ = some (.bool false) := Hb1.out.cell (i := 77) rfl
 have y78 : W.drew.cell? ⟨b, 78, none⟩ = some (.int .i64 0) := Hb1.out.cell (i := 78) rfl
 have y79 : W.drew.cell? ⟨b, 79, none⟩ = some (.int .i64 0) := Hb1.out.cell (i := 79) rfl
 clear i0
 refine wp_region_held_drew (S := fun W' => W'.cell? ⟨w.heap.size, 3, none⟩ = some (.int .i64 ck)) (by kernel_rfl) (HSS.out _ hd) (fun hHeld => ?_)
 refine tkH 0 ?_
 try simp only [pt]
 refine tkH 1 ?_
 try simp only [pt]
 refine tkH 2 ?_
 try simp only [pt]
 refine tkH 3 ?_
 try simp only [pt]
 refine tkH 5 ?_
 try simp only [pt]
 refine tkH 6 ?_
 try simp only [pt]
 refine rdy [4] ?_
 refine' arC rfl (fun KK hKK => ?a4) AllReadyH.nil
 go_simp
 refine hKK.out _ _ (HSS.out _ hd) (fun _ => ?_)
 clear hKK KK
 try simp only [pt]
 clear y76 y77 y78 y79
 refine rdy [7] ?_
 refine' arC rfl (fun KK hKK => ?a7) AllReadyH.nil
 go_simp
 refine (xRead_ok ck _ ck1 ck2).mono ?_; rintro e w4 ⟨rfl, hb4⟩; have hB4 := hd.trans (hb4.mono hd.size)
 refine hKK.out _ _ (HSS.out _ hB4) (fun _ => ?_)
 clear hKK KK
 try simp only [pt]
 refine tkH 8 ?_
 try simp only [pt]
 refine tkH 9 ?_
 try simp only [pt]
 refine tkH 10 ?_
 try simp only [pt]
 refine tkH 11 ?_
 try simp only [pt]
 refine tkH 12 ?_
 try simp only [pt]
 refine tkH 13 ?_
 try simp only [pt]
 have hb4k := Hb1.out.kept hB4
 have hb5 : BlockIs (w4.setCells b 76 (ckA ck).toList) b (twA { x with st := true, hs := false, now := ck, cand := 0, mode := 3 }) 81 := by
  have hq : BlockIs _ b (twA { x with st := true, hs := false, now := 0, cand := 0, mode := 3 }) 81 := (hb4k.set 76 (.bool true)).set 77 (.bool false)
  exact (hq.set 78 (.int .i64 ck)).set 79 (.int .i64 0)
 have hT5 : Turn (fun k => k = b) w4 (w4.setCells b 76 (ckA ck).toList) := turn_setCells (T := fun k => k = b) rfl _ _ _ (Turn.refl _ _)
 have hI5 := hT5.at (HI.out.kept hB4) (by omega)
 have hth := there_of hb4k 76 4 (by show 76 + 4 ≤ 87; omega)
 refine rdy [14] ?_
 refine' arC rfl (fun KK hKK => ?a14) AllReadyH.nil
 refine wp_store_mid 76 (.tmp 36) (.tmp 32) rfl b 76 (ckA ck) rfl rfl hth clock_info (by simp [ckA, Value.oneCell']) ?_
 refine hKK.out _ _ (hI5.cell rfl) (fun _ => ?_)
 clear hKK KK
 try simp only [pt]
 refine wpAnyH_done (by kernel_rfl) ?_ _
 have hX5 := (Turn.of (T := fun k => k = b) hB4).trans hT5
 obtain ⟨W5, hW5⟩ : ∃ W5, w4.setCells b 76 (ckA ck).toList = W5 := ⟨_, rfl⟩
 rw [hW5] at hb5 hT5 hI5 hX5
 rw [hW5]
 have HX5 := Lib.hid hX5
 have HB5 := Lib.hid hb5
 have HI5 := Lib.hid hI5
 have HC5 := Lib.hid (show CfgM W5 x.c x.v x.w from ⟨rd_turn hX5 HC.out.s (fun k hk _ => (HNV.out k hk).1), rd_turn hX5 HC.out.w (fun k hk _ => (HNW.out k hk).1)⟩)
 have HTA5 := Lib.hid (HTA.out.turn hX5 hG1 hG2)
 have HL5 := Lib.hid (HL.out.turn hX5 hne)
 have HRA5 := Lib.hid (rd_turn hX5 HRA.out (fun k hk _ => (HNA.out k hk).1))
 have hs5 : W.heap.size ≤ W5.heap.size := hX5.size
 clear hHeld hd hB4 hb4 hb4k hb5 hT5 hI5 hth hX5 hW5 HSS HC HRA HI Hb Hb1 HL HTA
 go_wp2_with fail
 refine (twanted_ok b { x with st := true, hs := false, now := ck, cand := 0, mode := 3 } m _ HB5.out HX.out.2.2.1 rfl HTA5.out HC5.out HM.out).mono ?_; rintro e w6 ⟨rfl, hb6⟩
 have HB6 := Lib.hid (HB5.out.kept hb6)
 have HI6 := Lib.hid (HI5.out.kept hb6)
 have HX6 := Lib.hid (HX5.out.trans (Turn.of hb6))
 have HC6 := Lib.hid (HC5.out.below hb6)
 have HTA6 := Lib.hid (HTA5.out.below hb6)
 have HL6 := Lib.hid (HL5.out.turn (T := fun k => k = b) (Turn.of hb6) hne)
 have HRA6 := Lib.hid (HRA5.out.below hb6)
 have c80 := HB6.out.cell (i := 80) (v := .int .i64 3) rfl
 have f80 := HB6.out.free 80
 have hs6 := hb6.size
 clear hb6 HB5 HI5 HX5 HC5 HTA5 HL5 HRA5
 go_upto_region 9 with fail
 have hb7 : BlockIs (w6.setCell ⟨b, 80, none⟩ (.int .i64 m)) b (twA { x with st := true, hs := false, now := ck, cand := 0, mode := m }) 81 := HB6.out.set 80 (.int .i64 m)
 have hT7 := (Turn.refl (fun k => k = b) w6).setCell rfl 80 (.int .i64 m)
 obtain ⟨W7, hW7⟩ : ∃ W7, w6.setCell ⟨b, 80, none⟩ (.int .i64 m) = W7 := ⟨_, rfl⟩
 rw [hW7] at hb7 hT7
 rw [hW7]
 have HB7 := Lib.hid hb7
 have HT7 := Lib.hid hT7
 have HL7 := Lib.hid (HL6.out.turn hT7 hne)
 clear c80 f80 hb7 hT7 hW7 HB6 HL6
 go_wp2_with fail
 refine (tanew_ok b lb n cap { x with st := true, hs := false, now := ck, cand := 0, mode := m } _ HB7.out HL7.out HX.out.2.1 hn8 hne).mono ?_; rintro e w8 ⟨rfl, hb8, hT8⟩
 have hT68 := HT7.out.trans hT8
 have HB8 := Lib.hid hb8
 have HI8 := Lib.hid (hT68.at HI6.out (by omega))
 have HX8 := Lib.hid (HX6.out.trans hT68)
 have HC8 := Lib.hid (show CfgM w8 x.c x.v x.w from ⟨rd_turn hT68 HC6.out.s (fun k hk _ => (HNV.out k hk).1), rd_turn hT68 HC6.out.w (fun k hk _ => (HNW.out k hk).1)⟩)
 have HTA8 := Lib.hid (HTA6.out.turn hT68 hG1 hG2)
 have HL8 := Lib.hid (HL7.out.turn hT8 hne)
 have HRA8 := Lib.hid (rd_turn hT68 HRA6.out (fun k hk _ => (HNA.out k hk).1))
 have c74 := HB8.out.cell (i := 74) (v := .bool true) (by rw [← HX.out.2.2.1]; rfl)
 have c75 := HB8.out.cell (i := 75) (v := .int .i64 1) (by rw [← HX.out.2.2.2]; rfl)
 have hr8 : w8.rangeAt b 37 (cfgA x.c x.v x.w).toList := block_sub HB8.out 37 37
 have hs8 : w6.heap.size ≤ w8.heap.size := hT68.size
 clear hb8 hT8 hT68 HB7 HT7 HL7 HI6 HX6 HC6 HTA6 HRA6
 go_wp2_with ((with_reducible show wpList _ _ _ _ _ _); refine wl_cfg (.tmp 74) x.c x.v x.w b 37 ?_ ?_ ?_ hr8 ?_; rfl; rfl; rfl)
 refine (cencode_ok x.c x.v x.w _ HTA8.out H0.out HC8.out).mono ?_; rintro e w9 ⟨v9, rfl, ho9, hb9⟩
 have hs9 := hb9.size
 have HB9 := Lib.hid (HB8.out.kept hb9)
 have HI9 := HI8.out.kept hb9
 have HX9 := Lib.hid (HX8.out.trans (Turn.of hb9))
 have HC9 := Lib.hid (HC8.out.below hb9)
 have HTA9 := Lib.hid (HTA8.out.below hb9)
 have HL9 := Lib.hid (HL8.out.turn (T := fun k => k = b) (Turn.of hb9) hne)
 have HRA9 := Lib.hid (HRA8.out.below hb9)
 have HO9 := Lib.hid ho9
 have hri : w9.rangeAt w.heap.size 0 (inA up ck vu).toList := block_sub HI9 0 10
 clear hb9 ho9 HB8 HI8 HX8 HC8 HTA8 HL8 HRA8 HI9 c74 c75 hr8
 go_wp2_with ((with_reducible show wpList _ _ _ _ _ _); refine wl_any 54 (.tmp 4) (inA up ck vu).toList w.heap.size 0 _ Tryz.underlying54 rfl input_info ?_ ?_ ?_ hri ?_; rfl; rfl; rfl)
 refine (twrite_second b { x with st := true, hs := false, now := ck, cand := 0, mode := m, age := 0, ha := .slice none 0 0, hi := .slice none 0 0 } 1 k0 m0 (cfgB x.c) (cfgB x.c) v9 q d up ck vu _ HTA9.out HB9.out HRA9.out HX.out.1 HBY.out (by omega) (by omega) (by omega) (by omega) hk0 m01 m02 (by show (1 : Int) ≤ x.gen; have := HX.out.2.2.2; omega) (fun k hk => (HNA.out k hk).1) (own_rd HO9.out) HBY.out (by omega) (by omega) (by show (0 : Int) ≤ x.gen; have := HX.out.2.2.2; omega) (by show x.gen < 1099511627776; have := HX.out.2.2.2; omega) (by show I64 ck; unfold I64; omega) hm1 (by show m ≤ 5; omega) (fun k hk => by have := (HO9.out.lt k hk).1; omega) hG1 hG2).mono ?_
 rintro e w10 ⟨va, vb, rfl, hB10, hT10⟩
 have e2 : x.gen + 1 = 2 := by have := HX.out.2.2.2; omega
 have hB10 : BlockIs w10 b (twA { x with st := true, hs := false, now := ck, cand := 0, mode := m, age := 0, ha := .slice none 0 0, hi := .slice none 0 0, gen := x.gen + 1, fa := va, fb := vb }) 81 := hB10
 rw [e2] at hB10
 have HB10 := Lib.hid hB10
 have HT10 := Lib.hid hT10
 clear hB10 hT10 hri
 go_wp2_with fail
 go_end0
 have hT := HT10.out
 exact ⟨va, vb, rfl, ⟨HB10.out, HL9.out.turn hT hne, HX.out.2.1, hca, hne, HTA9.out.turn hT hG1 hG2, hG1, hG2, hL1, hL2⟩, ⟨⟨rd_turn hT HC9.out.s (fun k hk _ => (HNV.out k hk).1), rd_turn hT HC9.out.w (fun k hk _ => (HNW.out k hk).1)⟩, HNV.out, HNW.out⟩, (HTT.out.trans HX9.out).trans hT⟩
theorem there_keep {w w' : World} {b o n : Nat} (h : w.there b o n) (hb : Below w.heap.size w w') : w'.there b o n := fun j hj => by
 have h1 := h j hj
 obtain ⟨u, hu⟩ := Option.isSome_iff_exists.1 h1.1
 have hbl := hb.block b (World.block_lt_of_cell? w _ hu)
 exact ⟨by rw [World.cell?_of_block (w := w) (a := ⟨b, o + j, none⟩) hbl]; exact h1.1, by have := h1.2; unfold World.frozen? at this ⊢; rw [hbl]; exact this⟩
set_option maxRecDepth 100000 in
theorem tnext_ok (b lb n cap k : Nat) (x : Tw) (p q : Option Addr) (pc qc : Nat) (w : World) (h : BlockIs w b (twA x) 81) (h0 : CfgOk x.c) (hlf : x.lf = .slice (some ⟨lb, 0, none⟩) n cap) (hca : x.c.ca = (n : Int)) (hmode : x.mode = 0) (hha : x.ha = .slice p 0 pc) (hhi : x.hi = .slice q 0 qc) (hk : k < n) (hl : w.rangeAt lb (k * 10) li0) (hf : w.there lb (k * 10) 10) :
  Calls Tryz.prog 59 #[.pointer (some ⟨b, 0, none⟩), .int .i64 (k : Int)] w fun e w' => e = .returned (.int .i64 0) ∧ Below w.heap.size w w' := by
 have k0 : (0 : Int) ≤ (k : Int) := by omega
 have k1 : (k : Int) < x.c.ca := by omega
 have hi1 : (k : Int) < (n : Int) := by omega
 have c82 := h.cell (i := 82) (v := .slice (some ⟨lb, 0, none⟩) n cap) (by rw [← hlf]; rfl)
 have H0 := Lib.hid h0
 have Hb := Lib.hid h
 have HX := Lib.hid (And.intro hmode (And.intro hha hhi))
 have Hl := Lib.hid hl
 have Hf := Lib.hid hf
 have hd := (Below.refl w.heap.size w).drew
 have HSS := Lib.hid (show ∀ W', Below w.heap.size w W' → W'.cell? ⟨b, 83, none⟩ = some (.slice p 0 pc) ∧ W'.cell? ⟨b, 84, none⟩ = some (.slice q 0 qc) from fun W' hh => ⟨(h.kept hh).cell (by rw [← hha]; rfl), (h.kept hh).cell (by rw [← hhi]; rfl)⟩)
 clear h h0 hl hf hlf hha hhi hmode hk hca
 go_enter Tryz.func59, Tryz.ntmps59
 go_upto_region 3 with fail
 go_cut [7] (fun p7 wc => ∃ bv, p7 = .pointer (some ⟨bv, 0, none⟩) ∧ BlockIs wc bv vw0 215 ∧ Below w.heap.size w wc)
 case first =>
  clear c82
  refine wp_region_held_drew (S := fun W' => W'.cell? ⟨b, 83, none⟩ = some (.slice p 0 pc) ∧ W'.cell? ⟨b, 84, none⟩ = some (.slice q 0 qc)) (by kernel_rfl) (HSS.out _ hd) (fun hHeld => ?_)
  have hB := hd
  refine tkH 0 ?_
  try simp only [pt]
  refine tkH 2 ?_
  try simp only [pt]
  refine tkH 3 ?_
  try simp only [pt]
  refine tkH 4 ?_
  try simp only [pt]
  refine tkH 5 ?_
  try simp only [pt]
  refine tkH 6 ?_
  try simp only [pt]
  refine rdy [1, 11] ?_
  refine' arC rfl (fun KK hKK => ?xa1) (arC rfl (fun KK hKK => ?xa11) AllReadyH.nil)
  case xa1 =>
   go_simp
   refine (thouse_ok b x _ (Hb.out.kept hB)).mono ?_; rintro e w4 ⟨rfl, hb⟩
   have hB := hB.trans (hb.mono hB.size)
   clear hb
   refine hKK.out _ _ (HSS.out _ hB) (fun _ => ?_)
   clear hKK KK
   try simp only [pt]
   refine rdy [7, 11] ?_
   refine' arC rfl (fun KK hKK => ?xaq1q7) (arC rfl (fun KK hKK => ?xaq1q11) AllReadyH.nil)
   case xaq1q7 =>
    go_simp
    refine (lView_ok x.c.fl x.c.ca (k : Int) p q pc qc _ H0.out.fl1 H0.out.fl2 H0.out.ca1 H0.out.ca2 k0 k1).mono ?_; rintro e w5 ⟨rfl, hb⟩
    have hB := hB.trans (hb.mono hB.size)
    clear hb
    refine hKK.out _ _ (HSS.out _ hB) (fun _ => ?_)
    clear hKK KK
    try simp only [pt]
    refine tkH 8 ?_
    try simp only [pt]
    refine tkH 9 ?_
    try simp only [pt]
    refine tkH 10 ?_
    try simp only [pt]
    refine rdy [11] ?_
    refine' arC rfl (fun KK hKK => ?xaq1qq7q11) AllReadyH.nil
    case xaq1qq7q11 =>
     go_simp
     have habA := hB.size
     try simp only [World.size_alloc] at habA
     have hB := ba hB (.cells #[.slice none 0 0, .slice none 0 0, .slice none 0 0] 215) (by first | exact Nat.le_refl _ | omega)
     have hA : BlockIs (w5.alloc (.cells #[.slice none 0 0, .slice none 0 0, .slice none 0 0] 215)) (w5.heap.size) #[.slice none 0 0, .slice none 0 0, .slice none 0 0] 215 := by have h := BlockIs.new w5 #[.slice none 0 0, .slice none 0 0, .slice none 0 0] 215; (try simp only [World.size_alloc] at h); exact h
     refine hKK.out _ _ (HSS.out _ hB) (fun _ => ?_)
     clear hKK KK
     try simp only [pt]
     have hF9 := hA.row vw0
     have hB9 := below_setRow hB (b := (w5.heap.size)) habA vw0
     refine rdy [12] ?_
     refine' arC rfl (fun KK hKK => ?aq1qq7qq11qt12) AllReadyH.nil
     refine wp_store_row 215 (.tmp 7) (.tmp 30) rfl _ vw0 rfl rfl 215 _ hA view_info rfl (by simp [vw0, Value.oneCell']) ?_
     refine hKK.out _ _ (HSS.out _ hB9) (fun _ => ?_)
     clear hKK KK
     try simp only [pt]
     refine tkH 13 ?_
     try simp only [pt]
     refine wpAnyH_done (by kernel_rfl) ?_ _
     clear hHeld
     go_wp2_with fail
     go_meet
     exact ⟨_, rfl, hF9, hB9⟩
   case xaq1q11 =>
    go_simp
    have habA := hB.size
    try simp only [World.size_alloc] at habA
    have hB := ba hB (.cells #[.slice none 0 0, .slice none 0 0, .slice none 0 0] 215) (by first | exact Nat.le_refl _ | omega)
    have hA : BlockIs (w4.alloc (.cells #[.slice none 0 0, .slice none 0 0, .slice none 0 0] 215)) (w4.heap.size) #[.slice none 0 0, .slice none 0 0, .slice none 0 0] 215 := by have h := BlockIs.new w4 #[.slice none 0 0, .slice none 0 0, .slice none 0 0] 215; (try simp only [World.size_alloc] at h); exact h
    refine hKK.out _ _ (HSS.out _ hB) (fun _ => ?_)
    clear hKK KK
    try simp only [pt]
    refine rdy [7] ?_
    refine' arC rfl (fun KK hKK => ?xaq1qq11q7) AllReadyH.nil
    case xaq1qq11q7 =>
     go_simp
     refine (lView_ok x.c.fl x.c.ca (k : Int) p q pc qc _ H0.out.fl1 H0.out.fl2 H0.out.ca1 H0.out.ca2 k0 k1).mono ?_; rintro e w5 ⟨rfl, hb⟩
     have hB := hB.trans (hb.mono hB.size)
     have hA := hA.kept hb
     clear hb
     refine hKK.out _ _ (HSS.out _ hB) (fun _ => ?_)
     clear hKK KK
     try simp only [pt]
     refine tkH 8 ?_
     try simp only [pt]
     refine tkH 9 ?_
     try simp only [pt]
     refine tkH 10 ?_
     try simp only [pt]
     have hF9 := hA.row vw0
     have hB9 := below_setRow hB (b := (w4.heap.size)) habA vw0
     refine rdy [12] ?_
     refine' arC rfl (fun KK hKK => ?aq1qq11qq7qt12) AllReadyH.nil
     refine wp_store_row 215 (.tmp 7) (.tmp 30) rfl _ vw0 rfl rfl 215 _ hA view_info rfl (by simp [vw0, Value.oneCell']) ?_
     refine hKK.out _ _ (HSS.out _ hB9) (fun _ => ?_)
     clear hKK KK
     try simp only [pt]
     refine tkH 13 ?_
     try simp only [pt]
     refine wpAnyH_done (by kernel_rfl) ?_ _
     clear hHeld
     go_wp2_with fail
     go_meet
     exact ⟨_, rfl, hF9, hB9⟩
  case xa11 =>
   go_simp
   have habA := hB.size
   try simp only [World.size_alloc] at habA
   have hB := ba hB (.cells #[.slice none 0 0, .slice none 0 0, .slice none 0 0] 215) (by first | exact Nat.le_refl _ | omega)
   have hA : BlockIs (w.drew.alloc (.cells #[.slice none 0 0, .slice none 0 0, .slice none 0 0] 215)) (w.heap.size) #[.slice none 0 0, .slice none 0 0, .slice none 0 0] 215 := by have h := BlockIs.new w.drew #[.slice none 0 0, .slice none 0 0, .slice none 0 0] 215; (try simp only [World.size_alloc] at h); exact h
   refine hKK.out _ _ (HSS.out _ hB) (fun _ => ?_)
   clear hKK KK
   try simp only [pt]
   refine rdy [1] ?_
   refine' arC rfl (fun KK hKK => ?xaq11q1) AllReadyH.nil
   case xaq11q1 =>
    go_simp
    refine (thouse_ok b x _ (Hb.out.kept hB)).mono ?_; rintro e w4 ⟨rfl, hb⟩
    have hB := hB.trans (hb.mono hB.size)
    have hA := hA.kept hb
    clear hb
    refine hKK.out _ _ (HSS.out _ hB) (fun _ => ?_)
    clear hKK KK
    try simp only [pt]
    refine rdy [7] ?_
    refine' arC rfl (fun KK hKK => ?xaq11qq1q7) AllReadyH.nil
    case xaq11qq1q7 =>
     go_simp
     refine (lView_ok x.c.fl x.c.ca (k : Int) p q pc qc _ H0.out.fl1 H0.out.fl2 H0.out.ca1 H0.out.ca2 k0 k1).mono ?_; rintro e w5 ⟨rfl, hb⟩
     have hB := hB.trans (hb.mono hB.size)
     have hA := hA.kept hb
     clear hb
     refine hKK.out _ _ (HSS.out _ hB) (fun _ => ?_)
     clear hKK KK
     try simp only [pt]
     refine tkH 8 ?_
     try simp only [pt]
     refine tkH 9 ?_
     try simp only [pt]
     refine tkH 10 ?_
     try simp only [pt]
     have hF9 := hA.row vw0
     have hB9 := below_setRow hB (b := (w.heap.size)) habA vw0
     refine rdy [12] ?_
     refine' arC rfl (fun KK hKK => ?aq11qq1qq7qt12) AllReadyH.nil
     refine wp_store_row 215 (.tmp 7) (.tmp 30) rfl _ vw0 rfl rfl 215 _ hA view_info rfl (by simp [vw0, Value.oneCell']) ?_
     refine hKK.out _ _ (HSS.out _ hB9) (fun _ => ?_)
     clear hKK KK
     try simp only [pt]
     refine tkH 13 ?_
     try simp only [pt]
     refine wpAnyH_done (by kernel_rfl) ?_ _
     clear hHeld
     go_wp2_with fail
     go_meet
     exact ⟨_, rfl, hF9, hB9⟩
 case rest =>
  obtain ⟨bv, rfl, hV, hB⟩ := hcut
  have c80 := (Hb.out.kept hB).cell (i := 80) (v := .int .i64 0) (by rw [← HX.out.1]; rfl)
  have Hb1 := Lib.hid (Hb.out.kept hB)
  have Hl1 := Lib.hid (range_keep Hl.out hB)
  have Hf1 := Lib.hid (there_keep Hf.out hB)
  have hd := (Below.refl wc.heap.size wc).drew
  have HSS := Lib.hid (show ∀ W', Below wc.heap.size wc W' → W'.cell? ⟨b, 37, none⟩ = some (.int .i64 x.c.fl) ∧ W'.cell? ⟨lb, k * 10, none⟩ = some (.int .i64 0) ∧ W'.cell? ⟨lb, k * 10 + 7, none⟩ = some (.int .i64 0) ∧ W'.cell? ⟨lb, k * 10 + 8, none⟩ = some (.bool false) ∧ W'.cell? ⟨lb, k * 10 + 9, none⟩ = some (.bool false) ∧ W'.cell? ⟨bv, 0, none⟩ = some (.slice none 0 0) ∧ W'.cell? ⟨bv, 1, none⟩ = some (.slice none 0 0) ∧ W'.cell? ⟨bv, 2, none⟩ = some (.slice none 0 0) from fun W' hh =>
   ⟨(Hb1.out.kept hh).cell rfl, range_keep Hl1.out hh 0 _ rfl, range_keep Hl1.out hh 7 _ rfl, range_keep Hl1.out hh 8 _ rfl, range_keep Hl1.out hh 9 _ rfl, (hV.kept hh).cell rfl, (hV.kept hh).cell rfl, (hV.kept hh).cell rfl⟩)
  have HB1 := Lib.hid hB
  clear Hb Hl Hf hV hB c82
  go_upto_region 6 with fail
  clear c80
  refine wp_region_held_drew (S := fun W' => W'.cell? ⟨b, 37, none⟩ = some (.int .i64 x.c.fl) ∧ W'.cell? ⟨lb, k * 10, none⟩ = some (.int .i64 0) ∧ W'.cell? ⟨lb, k * 10 + 7, none⟩ = some (.int .i64 0) ∧ W'.cell? ⟨lb, k * 10 + 8, none⟩ = some (.bool false) ∧ W'.cell? ⟨lb, k * 10 + 9, none⟩ = some (.bool false) ∧ W'.cell? ⟨bv, 0, none⟩ = some (.slice none 0 0) ∧ W'.cell? ⟨bv, 1, none⟩ = some (.slice none 0 0) ∧ W'.cell? ⟨bv, 2, none⟩ = some (.slice none 0 0)) (by kernel_rfl) (HSS.out _ hd) (fun hHeld => ?_)
  refine tkH 0 ?_
  try simp only [pt]
  refine tkH 1 ?_
  try simp only [pt]
  refine tkH 2 ?_
  try simp only [pt]
  refine tkH 3 ?_
  try simp only [pt]
  refine tkH 4 ?_
  try simp only [pt]
  refine tkH 5 ?_
  try simp only [pt]
  refine tkH 6 ?_
  try simp only [pt]
  refine tkH 7 ?_
  try simp only [pt]
  refine tkH 8 ?_
  try simp only [pt]
  refine tkH 9 ?_
  try simp only [pt]
  refine tkH 10 ?_
  try simp only [pt]
  refine tkH 11 ?_
  try simp only [pt]
  refine tkH 12 ?_
  try simp only [pt]
  refine tkH 13 ?_
  try simp only [pt]
  refine tkH 14 ?_
  try simp only [pt]
  refine tkH 15 ?_
  try simp only [pt]
  refine tkH 16 ?_
  try simp only [pt]
  refine tkH 17 ?_
  try simp only [pt]
  refine tkH 18 ?_
  try simp only [pt]
  refine tkH 19 ?_
  try simp only [pt]
  refine tkH 20 ?_
  try simp only [pt]
  refine tkH 21 ?_
  try simp only [pt]
  refine tkH 22 ?_
  try simp only [pt]
  refine tkH 23 ?_
  try simp only [pt]
  refine rdy [24] ?_
  refine' arC rfl (fun KK hKK => ?b24) AllReadyH.nil
  go_simp
  refine (oNext_ok x.c.fl _ H0.out.fl1 H0.out.fl2).mono ?_; rintro e w7 ⟨rfl, hb7⟩; have hB7 := hd.trans (hb7.mono hd.size)
  refine hKK.out _ _ (HSS.out _ hB7) (fun _ => ?_)
  clear hKK KK
  try simp only [pt]
  refine tkH 25 ?_
  try simp only [pt]
  refine tkH 26 ?_
  try simp only [pt]
  refine tkH 27 ?_
  try simp only [pt]
  refine tkH 28 ?_
  try simp only [pt]
  refine tkH 29 ?_
  try simp only [pt]
  refine tkH 30 ?_
  try simp only [pt]
  refine tkH 31 ?_
  try simp only [pt]
  refine wpAnyH_done (by kernel_rfl) ?_ _
  have y7 := range_keep Hl1.out hB7 7 _ rfl
  have z7 := (there_keep Hf1.out hB7 7 (by omega)).2
  have hsm := setCell_same (w := w7) (b := lb) (i := k * 10 + 7) (v := .int .i64 0) y7
  have HB7 := Lib.hid (HB1.out.trans (hB7.mono HB1.out.size))
  have HSM := Lib.hid hsm
  clear hHeld hd hB7 hb7 HSS HB1 Hl1 Hf1 Hb1 hsm
  go_wp2_with fail
  rw [HSM.out]
  go_ret
  exact ⟨rfl, HB7.out⟩
end Go.Proofs.YtfnifgppblbjhaaGreatDoor
