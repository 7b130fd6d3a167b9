/- Part of the proof of TopHoly. -/
import Derived.Test.YtfnifgppblbjhaaGreatDoorY01
import Derived.Test.YtfnifgppblbjhaaGreatDoorY29
import Derived.Test.YtfnifgppblbjhaaGreatDoorY30
namespace Go.Proofs.YtfnifgppblbjhaaGreatDoor
set_option maxHeartbeats 8000000
open Go Go.RowKit
set_option linter.unusedVariables false
set_option linter.unusedSimpArgs false
set_option maxRecDepth 100000 in
theorem wspan_week (c : Cfg) (vs vw : Value) (D : Int) (o : Option Sp) (w : World) (ht : Tab w) (h : CfgOk c) (hm : CfgM w c vs vw) (hk : c.w.k = 1) (h1 : 402 ≤ D) (h2 : D ≤ 3651990) (ho : OpenW c vs vw D o) :
  Calls Tryz.prog 255 #[.agg (cfgA c vs vw), .agg (wnA c.w), .int .i64 D] w fun e w' => e = .returned (.tuple #[.agg (spO o), .bool o.isSome, .int .i64 0]) ∧ Below w.heap.size w w' := by
 have hC := ((BlockIs.new w (cfgA c vs vw) 33).alloc (.cells (wnA c.w) 35)).alloc (.cells #[.int .i64 0, .int .i64 0, .int .i64 0, .int .i64 0] 264)
 have hW := (BlockIs.new (w.alloc (.cells (cfgA c vs vw) 33)) (wnA c.w) 35).alloc (.cells #[.int .i64 0, .int .i64 0, .int .i64 0, .int .i64 0] 264)
 simp only [World.size_alloc] at hW
 have hR := BlockIs.new ((w.alloc (.cells (cfgA c vs vw) 33)).alloc (.cells (wnA c.w) 35)) #[.int .i64 0, .int .i64 0, .int .i64 0, .int .i64 0] 264
 simp only [World.size_alloc] at hR
 have HB := ((((Below.refl w.heap.size w).alloc (by exact Nat.le_refl _) (.cells (cfgA c vs vw) 33)).alloc (by simp only [World.size_alloc]; omega) (.cells (wnA c.w) 35)).alloc (by simp only [World.size_alloc]; omega) (.cells #[.int .i64 0, .int .i64 0, .int .i64 0, .int .i64 0] 264))
 obtain ⟨ho1, a, b, hab, ho2⟩ := ho
 have HO1 := Lib.hid ho1
 have HAB := Lib.hid hab
 have HO2 := Lib.hid ho2
 have HT := Lib.hid (ht.below HB)
 have HM := Lib.hid (hm.below HB)
 have HC := Lib.hid hC
 have HW := Lib.hid hW
 have HR := Lib.hid hR
 have HH := Lib.hid h
 have HK := Lib.hid hk
 clear hC hW hR ht hm h hk ho1 hab ho2
 go_enter Tryz.func255, Tryz.ntmps255
 go_wp2_with ((with_reducible show wpList _ _ _ _ _ _); refine wl_box (.tmp 3) c vs vw w.heap.size 33 rfl rfl rfl HC.out ?_)
 refine (kCheck_ok c _ _ _ HH.out HM.out).mono ?_; rintro e w1 ⟨rfl, hb1⟩
 have HC1 := Lib.hid (HC.out.kept hb1)
 have HW1 := Lib.hid (HW.out.kept hb1)
 have HR1 := Lib.hid (HR.out.kept hb1)
 have HT1 := Lib.hid (HT.out.below hb1)
 have HB1 := HB.trans (hb1.mono HB.size)
 have hw1 := wn_range HW1.out
 clear HC HW HR HM HT HB hb1
 go_wp2_with ((with_reducible show wpList _ _ _ _ _ _); refine load_wn (.tmp 4) c.w (w.heap.size + 1) 0 rfl rfl rfl hw1 ?_)
 refine (kWindow_ok c.w _ HH.out.w).mono ?_; rintro e w2 ⟨rfl, hb2⟩
 have HC2 := Lib.hid (HC1.out.kept hb2)
 have HW2 := Lib.hid (HW1.out.kept hb2)
 have HR2 := Lib.hid (HR1.out.kept hb2)
 have HT2 := Lib.hid (HT1.out.below hb2)
 have HB2 := HB1.trans (hb2.mono HB1.size)
 clear HC1 HW1 HR1 HT1 HB1 hb2 hw1
 go_wp2_with (go_at_call 268; refine (wreck_ok D _ h1 h2).mono ?_; rintro e w' ⟨rfl, rfl⟩)
 have hd := (Below.refl w2.heap.size w2).drew
 have HSS := Lib.hid (show ∀ W', Below w2.heap.size w2 W' → W'.rangeAt w.heap.size 0 (cfgA c vs vw).toList ∧ W'.rangeAt (w.heap.size + 1) 0 (wnA c.w).toList from fun W' hh => ⟨blk_rg (HC2.out.kept hh), blk_rg (HW2.out.kept hh)⟩)
 refine wp_region_held_drew (S := fun W' => W'.rangeAt w.heap.size 0 (cfgA c vs vw).toList ∧ W'.rangeAt (w.heap.size + 1) 0 (wnA c.w).toList) (by kernel_rfl) (HSS.out _ hd) (fun hHeld => ?_)
 refine tkH 0 ?_ (hy := by (intro w hSw; refine load_x 35 (.tmp 4) (wnA c.w).toList _ 0 _ Tryz.underlying35 rfl wn_info ?_ ?_ w (hSw.2) <;> rfl))
 try simp only [pt]
 refine tkH 2 ?_ (hy := by (intro w hSw; refine load_x 33 (.tmp 3) (cfgA c vs vw).toList _ 0 _ Tryz.underlying33 rfl cfg_info ?_ ?_ w (hSw.1) <;> rfl))
 try simp only [pt]
 refine tkH 3 ?_ (hy := by (intro w hSw; refine load_x 35 (.tmp 4) (wnA c.w).toList _ 0 _ Tryz.underlying35 rfl wn_info ?_ ?_ w (hSw.2) <;> rfl))
 try simp only [pt]
 refine tkH 4 ?_
 try simp only [pt]
 refine rdy [1] ?_
 refine' arC rfl (fun KK hKK => ?a1) AllReadyH.nil
 go_simp
 refine (wof_week c.w _ HK.out).mono ?_; rintro e w3 ⟨rfl, hb3⟩; have hB3 := hd.trans (hb3.mono hd.size)
 refine hKK.out _ _ (HSS.out _ hB3) (fun _ => ?_)
 clear hKK KK
 try simp only [pt]
 refine rdy [5] ?_
 refine' arC rfl (fun KK hKK => ?a5) AllReadyH.nil
 go_simp; go_upon
 refine (HO2.out _ (HT2.out.below hB3)).mono ?_; rintro e w5 ⟨rfl, hb5⟩; have hB5 := hB3.trans (hb5.mono hB3.size)
 refine hKK.out _ _ (HSS.out _ hB5) (fun _ => ?_)
 clear hKK KK
 try simp only [pt]
 refine tkH 6 ?_
 try simp only [pt]
 refine tkH 7 ?_
 try simp only [pt]
 refine tkH 8 ?_
 try simp only [pt]
 refine tkH 9 ?_
 try simp only [pt]
 refine tkH 10 ?_
 try simp only [pt]
 refine tkH 11 ?_
 try simp only [pt]
 refine tkH 12 ?_
 try simp only [pt]
 refine wpAnyH_done (by kernel_rfl) ?_ _
 have HR5 := Lib.hid (HR2.out.kept hB5)
 have HW5 := Lib.hid (HW2.out.kept hB5)
 have HB5 := Lib.hid (HB2.trans (hB5.mono HB2.size))
 have hlt5 := HR2.out.lt
 clear hHeld hd hb3 hB3 hb5 hB5 HSS HC2 HW2 HR2 HT2 HB2
 cases o with
 | none =>
  have y0 := HR5.out.cell (i := 0) (v := .int .i64 0) rfl
  have y1 := HR5.out.cell (i := 1) (v := .int .i64 0) rfl
  have y2 := HR5.out.cell (i := 2) (v := .int .i64 0) rfl
  have y3 := HR5.out.cell (i := 3) (v := .int .i64 0) rfl
  have z0 := HR5.out.free 0
  have z1 := HR5.out.free 1
  have z2 := HR5.out.free 2
  have z3 := HR5.out.free 3
  rw [show (none : Option Sp).isSome = false from rfl]
  go_wp2_with fail
  have hF := (((HR5.out.set 0 (.int .i64 0)).set 1 (.int .i64 0)).set 2 (.int .i64 0)).set 3 (.int .i64 0)
  have e0 := hF.cell (i := 0) (v := .int .i64 0) rfl
  have e1 := hF.cell (i := 1) (v := .int .i64 0) rfl
  have e2 := hF.cell (i := 2) (v := .int .i64 0) rfl
  have e3 := hF.cell (i := 3) (v := .int .i64 0) rfl
  exact bodyPost_ret (v := .tuple #[.agg #[.int .i64 0, .int .i64 0, .int .i64 0, .int .i64 0], .bool false, .int .i64 0]) (by simp [results, Tryz.results255, go_sem, e0, e1, e2, e3]) rfl ⟨rfl, (((HB5.out.setCell (p := ⟨w.heap.size + 1 + 1, 0, none⟩) (by show w.heap.size ≤ w.heap.size + 1 + 1; omega) _).setCell (p := ⟨w.heap.size + 1 + 1, 1, none⟩) (by show w.heap.size ≤ w.heap.size + 1 + 1; omega) _).setCell (p := ⟨w.heap.size + 1 + 1, 2, none⟩) (by show w.heap.size ≤ w.heap.size + 1 + 1; omega) _).setCell (p := ⟨w.heap.size + 1 + 1, 3, none⟩) (by show w.heap.size ≤ w.heap.size + 1 + 1; omega) _⟩
 | some s =>
  obtain ⟨m1, p1⟩ := HO1.out s rfl
  obtain ⟨a1, b1⟩ := HAB.out s rfl
  have y0 := HR5.out.cell (i := 0) (v := .int .i64 0) rfl
  have y1 := HR5.out.cell (i := 1) (v := .int .i64 0) rfl
  have y2 := HR5.out.cell (i := 2) (v := .int .i64 0) rfl
  have y3 := HR5.out.cell (i := 3) (v := .int .i64 0) rfl
  have z0 := HR5.out.free 0
  have z1 := HR5.out.free 1
  have z2 := HR5.out.free 2
  have z3 := HR5.out.free 3
  have d1 := HW5.out.cell (i := 1) (v := .int .i64 c.w.m) rfl
  have d2 := HW5.out.cell (i := 2) (v := .int .i64 c.w.p) rfl
  rw [show (some s : Option Sp).isSome = true from rfl]
  go_wp2_with fail
  have hF := (((HR5.out.set 0 (.int .i64 a)).set 1 (.int .i64 b)).set 2 (.int .i64 c.w.m)).set 3 (.int .i64 c.w.p)
  have e0 := hF.cell (i := 0) (v := .int .i64 a) rfl
  have e1 := hF.cell (i := 1) (v := .int .i64 b) rfl
  have e2 := hF.cell (i := 2) (v := .int .i64 c.w.m) rfl
  have e3 := hF.cell (i := 3) (v := .int .i64 c.w.p) rfl
  exact bodyPost_ret (v := .tuple #[.agg #[.int .i64 a, .int .i64 b, .int .i64 c.w.m, .int .i64 c.w.p], .bool true, .int .i64 0]) (by simp [results, Tryz.results255, go_sem, e0, e1, e2, e3]) rfl ⟨by simp only [spO, spA, a1, b1, m1, p1, Option.isSome_some], (((HB5.out.setCell (p := ⟨w.heap.size + 1 + 1, 0, none⟩) (by show w.heap.size ≤ w.heap.size + 1 + 1; omega) _).setCell (p := ⟨w.heap.size + 1 + 1, 1, none⟩) (by show w.heap.size ≤ w.heap.size + 1 + 1; omega) _).setCell (p := ⟨w.heap.size + 1 + 1, 2, none⟩) (by show w.heap.size ≤ w.heap.size + 1 + 1; omega) _).setCell (p := ⟨w.heap.size + 1 + 1, 3, none⟩) (by show w.heap.size ≤ w.heap.size + 1 + 1; omega) _⟩
theorem lift_info3 : (Tryz.prog.info? 87).map (fun i => (i.zero, i.size, i.bytes)) = some (some (.agg li0.toArray), 10, 72) := by kernel_rfl
theorem lib_made {w : World} {g n cap base : Nat} (h : w.ownsRow base 87 10 (.slice (some ⟨g, 0, none⟩) n cap) n (madeCells li0.toArray (n * 10)).toList) : LiB w g n 0 := by
 obtain ⟨hl0, ⟨hbad, _⟩ | ⟨g', cap', cur, he, hge, hcur, hcap, hcm, hcs, htk⟩⟩ := h
 ·cases hbad
 ·cases he
  have hb : BlockIs w g cur 87 := hcur
  have hlen : n * 10 ≤ cur.size := by rw [hcs]; omega
  have key : ∀ i v, i < n * 10 → li0.toArray[i % 10]? = some v → cur[i]? = some v := by
   intro i v hi hv
   have h1 : cur.toList[i]? = (cur.toList.take (n * 10))[i]? := by rw [List.getElem?_take, if_pos hi]
   rw [← Array.getElem?_toList, h1, htk]
   simp [madeCells, hi, li0]
   simp [li0] at hv
   have h10 : i % 10 < 10 := Nat.mod_lt _ (by omega)
   generalize i % 10 = k at *
   match k, h10 with
   | 0, _ => simpa using hv
   | 1, _ => simpa using hv
   | 2, _ => simpa using hv
   | 3, _ => simpa using hv
   | 4, _ => simpa using hv
   | 5, _ => simpa using hv
   | 6, _ => simpa using hv
   | 7, _ => simpa using hv
   | 8, _ => simpa using hv
   | 9, _ => simpa using hv
  refine ⟨fun k _ hk j v hj => ?_, fun k hk => there_of hb _ _ (by omega)⟩
  have hj10 : j < 10 := (List.getElem?_eq_some_iff.1 hj).1
  refine hb.cell (i := k * 10 + j) (key _ _ (by omega) ?_)
  rw [show (k * 10 + j) % 10 = j by omega]
  simpa using hj
structure TwC (W : World) (b lb n cap : Nat) (x : Tw) : Prop where
 blk : BlockIs W b (twA x) 81
 li : LiB W lb n 0
 lf : x.lf = .slice (some ⟨lb, 0, none⟩) n cap
 ca : x.c.ca = (n : Int)
 ne : lb ≠ b
 tab : Tab W
 b1 : 2 ≠ b
 b2 : 1 ≠ b
 l1 : 2 ≠ lb
 l2 : 1 ≠ lb
structure TwV (W : World) (b lb : Nat) (x : Tw) : Prop where
 m : CfgM W x.c x.v x.w
 v : ∀ k, x.v.ownBlock = some k → k ≠ b ∧ k ≠ lb
 w : ∀ k, x.w.ownBlock = some k → k ≠ b ∧ k ≠ lb
structure TwF (W : World) (b lb : Nat) (x : Tw) (g k m : Int) (l : List Nat) : Prop where
 a : Rd W x.fa (recB g k m l).length (bts (recB g k m l))
 na : ∀ k, x.fa.ownBlock = some k → k ≠ b ∧ k ≠ lb
 fb : ∃ q d, x.fb = .slice q 0 d
set_option maxRecDepth 100000 in
theorem tnew_one (c : Cfg) (vs vw : Value) (pa : Option Addr) (na ca : Nat) (q : Option Addr) (d : Nat) (w : World) (ht : Tab w) (h : CfgOk c) (hm : CfgM w c vs vw) (g k m : Int) (hna : (recB g k m (cfgB c)).length = na) (hsm : na < 1000000) (hra : Rd w (.slice pa na ca) na (bts (recB g k m (cfgB c)))) (g1 : 1 ≤ g) (g2 : g ≤ 1099511627776) (hk : I64 k) (m1 : 0 ≤ m) (m2 : m ≤ 5) :
  Calls Tryz.prog 17 #[.agg (cfgA c vs vw), .agg #[.slice pa na ca, .slice q 0 d]] w fun e w' => ∃ b lb n cap y v1 w1, e = .returned (.tuple #[.pointer (some ⟨b, 0, none⟩), .int .i64 0]) ∧ y.c0 = c ∧ TwC w' b lb n cap (twS y true g v1 w1) ∧ TwV w' b lb (twS y true g v1 w1) ∧ TwF w' b lb (twS y true g v1 w1) g k m (cfgB c) ∧ Below w.heap.size w w' ∧ w.heap.size ≤ b ∧ w.heap.size ≤ lb := by
 obtain ⟨i0, hi0, hz0, hz1, hz2⟩ := info_hid lift_info3
 obtain ⟨n, hn⟩ : ∃ n : Nat, c.ca = (n : Int) := ⟨c.ca.toNat, by have := h.ca1; omega⟩
 have hn1 : 1 ≤ n := by have := h.ca1; omega
 have hn8 : n ≤ 8 := by have := h.ca2; omega
 have hts := ht.size
 have hts2 := ht.size2
 have hC := (BlockIs.new w (cfgA c vs vw) 33).alloc (.cells #[.slice pa na ca, .slice q 0 d] 64)
 have hF := BlockIs.new (w.alloc (.cells (cfgA c vs vw) 33)) #[.slice pa na ca, .slice q 0 d] 64
 simp only [World.size_alloc] at hF
 have HB := (((Below.refl w.heap.size w).alloc (by exact Nat.le_refl _) (.cells (cfgA c vs vw) 33)).alloc (by simp only [World.size_alloc]; omega) (.cells #[.slice pa na ca, .slice q 0 d] 64))
 have HM := Lib.hid (hm.below HB)
 have HTA := Lib.hid (ht.below HB)
 have HR := Lib.hid (hra.below HB)
 have HC := Lib.hid hC
 have HF := Lib.hid hF
 have HH := Lib.hid h
 clear hm ht hra hC hF h
 go_enter Tryz.func17, Tryz.ntmps17
 go_wp2_with ((with_reducible show wpList _ _ _ _ _ _); refine wl_box (.tmp 2) c vs vw w.heap.size 33 rfl rfl rfl HC.out ?_)
 refine (kCheck_ok c _ _ _ HH.out HM.out).mono ?_; rintro e w1 ⟨rfl, hb1⟩
 have HC1 := Lib.hid (HC.out.kept hb1)
 have HF1 := Lib.hid (HF.out.kept hb1)
 have HM1 := Lib.hid (HM.out.below hb1)
 have HTA1 := Lib.hid (HTA.out.below hb1)
 have HR1 := Lib.hid (HR.out.below hb1)
 have HB1 := HB.trans (hb1.mono HB.size)
 clear HC HF HM HTA HR HB hb1
 go_upto_region 4 with fail
 go_wp2_with ((with_reducible show wpList _ _ _ _ _ _); refine wl_box (.tmp 2) c vs vw w.heap.size 33 rfl rfl rfl HC1.out ?_)
 refine (kept_ok c _ _ _ HH.out HM1.out).mono ?_; rintro e w2 ⟨v1, w1', rfl, ho1, ho2, hb2⟩
 obtain ⟨p1, q1, rfl⟩ := (own_rd ho1).form
 obtain ⟨p2, q2, rfl⟩ := (own_rd ho2).form
 have HC2 := HC1.out.kept hb2
 have HF2 := HF1.out.kept hb2
 have HB2 := HB1.trans (hb2.mono HB1.size)
 have hc2 := HC2.cell (i := 1) (v := .int .i64 c.ca) rfl
 have HC2 := Lib.hid HC2
 have HF2 := Lib.hid HF2
 have HO1 := Lib.hid ho1
 have HO2 := Lib.hid ho2
 have HTA2 := Lib.hid (HTA1.out.below hb2)
 have HR2 := Lib.hid (HR1.out.below hb2)
 clear HC1 HF1 HM1 HTA1 HR1 ho1 ho2 hb2
 go_upto_region 5 with ((with_reducible show wpList _ _ _ _ _ _); refine wl_build_tower (.tmp 14) c (.slice p1 c.st.length q1) (.slice p2 1 q2) ?_ ?_ ?_ ?_; rfl; rfl; rfl)
 have hbn := BlockIs.new w2 (twA (twN c (.slice p1 c.st.length q1) (.slice p2 1 q2) (.slice none 0 0) (.slice none 0 0) (.slice none 0 0))) 81
 have hF3 := HF2.out.alloc (.cells (twA (twN c (.slice p1 c.st.length q1) (.slice p2 1 q2) (.slice none 0 0) (.slice none 0 0) (.slice none 0 0))) 81)
 have hC3 := HC2.out.alloc (.cells (twA (twN c (.slice p1 c.st.length q1) (.slice p2 1 q2) (.slice none 0 0) (.slice none 0 0) (.slice none 0 0))) 81)
 have hB3 := (Below.refl _ w2).alloc (Nat.le_refl _) (.cells (twA (twN c (.slice p1 c.st.length q1) (.slice p2 1 q2) (.slice none 0 0) (.slice none 0 0) (.slice none 0 0))) 81)
 have hs2 := HB2.size
 obtain ⟨W3, hW3⟩ : ∃ W3, w2.alloc (.cells (twA (twN c (.slice p1 c.st.length q1) (.slice p2 1 q2) (.slice none 0 0) (.slice none 0 0) (.slice none 0 0))) 81) = W3 := ⟨_, rfl⟩
 have hR3 := HR2.out.below ((Below.refl _ w2).alloc (Nat.le_refl _) (.cells (twA (twN c (.slice p1 c.st.length q1) (.slice p2 1 q2) (.slice none 0 0) (.slice none 0 0) (.slice none 0 0))) 81))
 rw [hW3] at hbn hF3 hR3 hC3 hB3
 rw [hW3]
 have HR3 := Lib.hid hR3
 have HBN := Lib.hid hbn
 have hd := (Below.refl W3.heap.size W3).drew
 have HSS := Lib.hid (show ∀ W', Below W3.heap.size W3 W' → W'.cell? ⟨w.heap.size + 1, 0, none⟩ = some (.slice pa na ca) ∧ W'.cell? ⟨w.heap.size + 1, 1, none⟩ = some (.slice q 0 d) from fun W' hh => ⟨(hF3.kept hh).cell rfl, (hF3.kept hh).cell rfl⟩)
 have HF3 := Lib.hid hF3
 have HC3 := Lib.hid hC3
 have HB3 := Lib.hid hB3
 have hs3 : w2.heap.size < W3.heap.size := hbn.lt
 clear hR3 hbn hF3 hC3 hB3
 refine wp_region_held_drew (S := fun W' => W'.cell? ⟨w.heap.size + 1, 0, none⟩ = some (.slice pa na ca) ∧ W'.cell? ⟨w.heap.size + 1, 1, none⟩ = some (.slice q 0 d)) (by kernel_rfl) (HSS.out _ hd) (fun hHeld => ?_)
 refine tkH 0 ?_
 try simp only [pt]
 refine tkH 1 ?_
 try simp only [pt]
 refine tkH 2 ?_
 try simp only [pt]
 refine tkH 4 ?_
 try simp only [pt]
 refine tkH 5 ?_
 try simp only [pt]
 refine rdy [3] ?_
 refine' arC rfl (fun KK hKK => ?a3) AllReadyH.nil
 go_simp
 refine (clone_bytes _ na (bts (recB g k m (cfgB c))) _ (HR3.out.below hd) (by rw [bts_len]; omega) hsm (bts_one _)).mono ?_; rintro e w4 ⟨v4, rfl, ho4, hb4⟩; obtain ⟨p4, q4, rfl⟩ := (own_rd ho4).form; have hB4 := hd.trans (hb4.mono hd.size)
 refine hKK.out _ _ (HSS.out _ hB4) (fun _ => ?_)
 clear hKK KK
 try simp only [pt]
 refine rdy [6] ?_
 refine' arC rfl (fun KK hKK => ?a6) AllReadyH.nil
 go_simp
 refine (clone_bytes _ 0 [] _ (Or.inl ⟨rfl, rfl, _, _, rfl⟩) rfl (by omega) (by simp)).mono ?_; rintro e w5 ⟨v5, rfl, ho5, hb5⟩; obtain ⟨p5, q5, rfl⟩ := (own_rd ho5).form; have hB5 := hB4.trans (hb5.mono hB4.size)
 refine hKK.out _ _ (HSS.out _ hB5) (fun _ => ?_)
 clear hKK KK
 try simp only [pt]
 refine tkH 7 ?_
 try simp only [pt]
 refine tkH 8 ?_
 try simp only [pt]
 refine tkH 9 ?_
 try simp only [pt]
 refine tkH 10 ?_
 try simp only [pt]
 have hbn5 := HBN.out.kept hB5
 have y85 := hbn5.cell (i := 85) (v := .slice none 0 0) rfl
 have y86 := hbn5.cell (i := 86) (v := .slice none 0 0) rfl
 have z85 := hbn5.free 85
 have z86 := hbn5.free 86
 have hlt2 := HC2.out.lt
 have hltF := HF2.out.lt
 have hF5 := ((HF3.out.kept hB5).other (a := ⟨w2.heap.size, 85, none⟩) (by show w.heap.size + 1 ≠ w2.heap.size; omega) (.slice p4 na q4)).other (a := ⟨w2.heap.size, 86, none⟩) (by show w.heap.size + 1 ≠ w2.heap.size; omega) (.slice p5 0 q5)
 have hC5 := ((HC3.out.kept hB5).other (a := ⟨w2.heap.size, 85, none⟩) (by show w.heap.size ≠ w2.heap.size; omega) (.slice p4 na q4)).other (a := ⟨w2.heap.size, 86, none⟩) (by show w.heap.size ≠ w2.heap.size; omega) (.slice p5 0 q5)
 refine rdy [11] ?_
 refine' arC rfl (fun KK hKK => ?a11) AllReadyH.nil
 go_simp
 refine hKK.out _ _ (⟨hF5.cell rfl, hF5.cell rfl⟩) (fun _ => ?_)
 clear hKK KK
 try simp only [pt]
 refine wpAnyH_done (by kernel_rfl) ?_ _
 have hb6 : BlockIs _ w2.heap.size (twA (twN c (.slice p1 c.st.length q1) (.slice p2 1 q2) (.slice none 0 0) (.slice p4 na q4) (.slice p5 0 q5))) 81 := (hbn5.set 85 (.slice p4 na q4)).set 86 (.slice p5 0 q5)
 have hX6 : Turn (fun k => k = w2.heap.size) w5 ((w5.setCell ⟨w2.heap.size, 85, none⟩ (.slice p4 na q4)).setCell ⟨w2.heap.size, 86, none⟩ (.slice p5 0 q5)) := ((Turn.refl (fun k => k = w2.heap.size) w5).setCell rfl 85 _).setCell rfl 86 _
 have hs5 : W3.heap.size ≤ w5.heap.size := hB5.size
 have hX26 : Turn (fun k => k = w2.heap.size) w2 ((w5.setCell ⟨w2.heap.size, 85, none⟩ (.slice p4 na q4)).setCell ⟨w2.heap.size, 86, none⟩ (.slice p5 0 q5)) := ((Turn.of HB3.out).trans (Turn.of hB5)).trans hX6
 have hrd4 : Rd ((w5.setCell ⟨w2.heap.size, 85, none⟩ (.slice p4 na q4)).setCell ⟨w2.heap.size, 86, none⟩ (.slice p5 0 q5)) (.slice p4 na q4) na (bts (recB g k m (cfgB c))) := rd_turn hX6 ((own_rd ho4).below hb5) (fun k hk _ => by have h1 := (ho4.lt k hk).1; have h2 : W3.drew.heap.size = W3.heap.size := rfl; omega)
 have hn4 : ∀ k, (Value.slice p4 na q4).ownBlock = some k → w2.heap.size < k ∧ k < w5.heap.size := fun k hk => by have h1 := ho4.lt k hk; have h2 : W3.drew.heap.size = W3.heap.size := rfl; have h3 := hb5.size; omega
 obtain ⟨W6, hW6⟩ : ∃ W6, (w5.setCell ⟨w2.heap.size, 85, none⟩ (.slice p4 na q4)).setCell ⟨w2.heap.size, 86, none⟩ (.slice p5 0 q5) = W6 := ⟨_, rfl⟩
 rw [hW6] at hb6 hX6 hX26 hrd4 hC5
 rw [hW6]
 have hs6 : w5.heap.size ≤ W6.heap.size := hX6.size
 have k1 := hC5.cell (i := 1) (v := .int .i64 c.ca) rfl
 have HB6 := Lib.hid hb6
 have HX26 := Lib.hid hX26
 have HR6 := Lib.hid hrd4
 have HN4 := Lib.hid hn4
 clear hHeld hd hb4 hB4 hb5 hB5 ho4 ho5 hbn5 y85 y86 z85 z86 hF5 hC5 hb6 hX6 hX26 hrd4 hn4 hW6 HSS HC3 HF3 HB3 HR3 HBN hc2 HC2 HF2
 go_wp2_with (at_make; refine wpList_make_full _ rfl (.tmp 30) (.tmp 30) 77 rfl W6.heap.size 87 i0 (.agg li0.toArray) 10 Tryz.underlying77 (hi0 ()) hz0 hz1 .i64 .i64 _ _ n rfl rfl rfl rfl (by rw [hz2]; omega) (by unfold maxLen; omega) (Nat.le_refl _) ?_)
 intro w7 hown hgrow
 have hb7 := HB6.out.kept (below_grown hgrow)
 have hlt6 := HB6.out.lt
 have hlt7 := (hown.lt _ rfl).2
 have hli := lib_made hown
 have y82 := hb7.cell (i := 82) (v := .slice none 0 0) rfl
 have z82 := hb7.free 82
 have hb8 : BlockIs _ w2.heap.size (twA (twN c (.slice p1 c.st.length q1) (.slice p2 1 q2) (.slice (some ⟨W6.heap.size, 0, none⟩) n n) (.slice p4 na q4) (.slice p5 0 q5))) 81 := hb7.set 82 (.slice (some ⟨W6.heap.size, 0, none⟩) n n)
 have hX8 := (HX26.out.trans (Turn.of (below_grown hgrow))).setCell rfl 82 (.slice (some ⟨W6.heap.size, 0, none⟩) n n)
 have hR8 := rd_turn (((Turn.of (T := fun k => k = w2.heap.size) (below_grown hgrow))).setCell rfl 82 (.slice (some ⟨W6.heap.size, 0, none⟩) n n)) HR6.out (fun k hk _ => by have := (HN4.out k hk).1; omega)
 have hli8 := hli.turn (((Turn.refl (fun k => k = w2.heap.size) w7)).setCell rfl 82 (.slice (some ⟨W6.heap.size, 0, none⟩) n n)) (by omega)
 have HB8 := Lib.hid hb8
 have HX8 := Lib.hid hX8
 have HR8 := Lib.hid hR8
 have HL8 := Lib.hid hli8
 clear hb7 hb8 hX8 hR8 hli8 hli hown hgrow k1 HB6 HX26 HR6
 go_upto_region 7 with fail
 obtain ⟨W8, hW8⟩ : ∃ W8, w7.setCell ⟨w2.heap.size, 82, none⟩ (.slice (some ⟨W6.heap.size, 0, none⟩) n n) = W8 := ⟨_, rfl⟩
 have hs8 : w7.heap.size ≤ W8.heap.size := by rw [← hW8]; simp
 rw [hW8] at HB8 HX8 HR8 HL8
 rw [hW8]
 clear hW8 y82 z82
 go_wp2_with fail
 have HR9 : Rd W8 (.slice p4 na q4) (recB g k m (cfgB c)).length (bts (recB g k m (cfgB c))) := by rw [hna]; exact HR8.out
 have HR9 := Lib.hid HR9
 refine (tstart_one w2.heap.size W6.heap.size n n (twN c (.slice p1 c.st.length q1) (.slice p2 1 q2) (.slice (some ⟨W6.heap.size, 0, none⟩) n n) (.slice p4 na q4) (.slice p5 0 q5)) W8 HB8.out HL8.out rfl hn8 (by omega) rfl rfl g k m p5 q5 ?_ ?_ rfl HH.out ?_ g1 g2 hk m1 m2 ?_ ?_ ?_ ?_ ?_).mono ?_
 case refine_1 => exact HTA2.out.turn HX8.out (by omega) (by omega)
 case refine_2 => exact HR9.out
 case refine_3 => exact ⟨rd_turn HX8.out (own_rd HO1.out) (fun k hk _ => by have := (HO1.out.lt k hk).2; omega), rd_turn HX8.out (own_rd HO2.out) (fun k hk _ => by have := (HO2.out.lt k hk).2; omega)⟩
 case refine_4 => omega
 case refine_5 => omega
 case refine_6 => exact fun k hk => by have := (HN4.out k hk).1; omega
 case refine_7 => exact fun k hk => by have := (HO1.out.lt k hk).2; omega
 case refine_8 => exact fun k hk => by have := (HO2.out.lt k hk).2; omega
 rintro e w9 ⟨v9, u9, rfl, hB9, hC9, hn91, hn92, hT9⟩
 have HB9 := Lib.hid hB9
 have HC9 := Lib.hid hC9
 have HN91 := Lib.hid hn91
 have HN92 := Lib.hid hn92
 have HT9 := Lib.hid hT9
 clear hB9 hC9 hn91 hn92 hT9
 go_wp2_with fail
 go_ret2
 refine ⟨w2.heap.size, W6.heap.size, n, n, _, v9, u9, rfl, rfl, ⟨HB9.out, HL8.out.turn HT9.out (by omega), rfl, hn, by omega, (HTA2.out.turn HX8.out (by omega) (by omega)).turn HT9.out (by omega) (by omega), by omega, by omega, by omega, by omega⟩, ⟨HC9.out, fun k hk => by have := HN91.out k hk; omega, fun k hk => by have := HN92.out k hk; omega⟩, ⟨rd_turn HT9.out HR9.out (fun k hk _ => by have := (HN4.out k hk).1; omega), fun k hk => by have := HN4.out k hk; omega, _, _, rfl⟩, ?_⟩
 exact ⟨HB2.trans ((HX8.out.trans HT9.out).below hs2 (by intro k hk; omega)), by omega, by omega⟩
set_option maxRecDepth 100000 in
theorem tnew_none (c : Cfg) (vs vw : Value) (w : World) (ht : Tab w) (h : CfgOk c) (hm : CfgM w c vs vw) :
  Calls Tryz.prog 17 #[.agg (cfgA c vs vw), .agg #[.slice none 0 0, .slice none 0 0]] w fun e w' => ∃ b lb n cap y p4 q4 p5 q5, e = .returned (.tuple #[.pointer (some ⟨b, 0, none⟩), .int .i64 0]) ∧ y.c0 = c ∧ TwC w' b lb n cap (twS y false 0 y.v0 y.w0) ∧ TwV w' b lb (twS y false 0 y.v0 y.w0) ∧ y.fa = .slice p4 0 q4 ∧ y.fb = .slice p5 0 q5 ∧ Below w.heap.size w w' ∧ w.heap.size ≤ b ∧ w.heap.size ≤ lb := by
 obtain ⟨i0, hi0, hz0, hz1, hz2⟩ := info_hid lift_info3
 obtain ⟨n, hn⟩ : ∃ n : Nat, c.ca = (n : Int) := ⟨c.ca.toNat, by have := h.ca1; omega⟩
 have hn1 : 1 ≤ n := by have := h.ca1; omega
 have hn8 : n ≤ 8 := by have := h.ca2; omega
 have hts := ht.size
 have hts2 := ht.size2
 have hC := (BlockIs.new w (cfgA c vs vw) 33).alloc (.cells #[.slice none 0 0, .slice none 0 0] 64)
 have hF := BlockIs.new (w.alloc (.cells (cfgA c vs vw) 33)) #[.slice none 0 0, .slice none 0 0] 64
 simp only [World.size_alloc] at hF
 have HB := (((Below.refl w.heap.size w).alloc (by exact Nat.le_refl _) (.cells (cfgA c vs vw) 33)).alloc (by simp only [World.size_alloc]; omega) (.cells #[.slice none 0 0, .slice none 0 0] 64))
 have HM := Lib.hid (hm.below HB)
 have HTA := Lib.hid (ht.below HB)
 have HC := Lib.hid hC
 have HF := Lib.hid hF
 have HH := Lib.hid h
 clear hm ht hC hF h
 go_enter Tryz.func17, Tryz.ntmps17
 go_wp2_with ((with_reducible show wpList _ _ _ _ _ _); refine wl_box (.tmp 2) c vs vw w.heap.size 33 rfl rfl rfl HC.out ?_)
 refine (kCheck_ok c _ _ _ HH.out HM.out).mono ?_; rintro e w1 ⟨rfl, hb1⟩
 have HC1 := Lib.hid (HC.out.kept hb1)
 have HF1 := Lib.hid (HF.out.kept hb1)
 have HM1 := Lib.hid (HM.out.below hb1)
 have HTA1 := Lib.hid (HTA.out.below hb1)
 have HB1 := HB.trans (hb1.mono HB.size)
 clear HC HF HM HTA HB hb1
 go_upto_region 4 with fail
 go_wp2_with ((with_reducible show wpList _ _ _ _ _ _); refine wl_box (.tmp 2) c vs vw w.heap.size 33 rfl rfl rfl HC1.out ?_)
 refine (kept_ok c _ _ _ HH.out HM1.out).mono ?_; rintro e w2 ⟨v1, w1', rfl, ho1, ho2, hb2⟩
 obtain ⟨p1, q1, rfl⟩ := (own_rd ho1).form
 obtain ⟨p2, q2, rfl⟩ := (own_rd ho2).form
 have HC2 := HC1.out.kept hb2
 have HF2 := HF1.out.kept hb2
 have HB2 := HB1.trans (hb2.mono HB1.size)
 have hc2 := HC2.cell (i := 1) (v := .int .i64 c.ca) rfl
 have HC2 := Lib.hid HC2
 have HF2 := Lib.hid HF2
 have HO1 := Lib.hid ho1
 have HO2 := Lib.hid ho2
 have HTA2 := Lib.hid (HTA1.out.below hb2)
 clear HC1 HF1 HM1 HTA1 ho1 ho2 hb2
 go_upto_region 5 with ((with_reducible show wpList _ _ _ _ _ _); refine wl_build_tower (.tmp 14) c (.slice p1 c.st.length q1) (.slice p2 1 q2) ?_ ?_ ?_ ?_; rfl; rfl; rfl)
 have hbn := BlockIs.new w2 (twA (twN c (.slice p1 c.st.length q1) (.slice p2 1 q2) (.slice none 0 0) (.slice none 0 0) (.slice none 0 0))) 81
 have hF3 := HF2.out.alloc (.cells (twA (twN c (.slice p1 c.st.length q1) (.slice p2 1 q2) (.slice none 0 0) (.slice none 0 0) (.slice none 0 0))) 81)
 have hC3 := HC2.out.alloc (.cells (twA (twN c (.slice p1 c.st.length q1) (.slice p2 1 q2) (.slice none 0 0) (.slice none 0 0) (.slice none 0 0))) 81)
 have hB3 := (Below.refl _ w2).alloc (Nat.le_refl _) (.cells (twA (twN c (.slice p1 c.st.length q1) (.slice p2 1 q2) (.slice none 0 0) (.slice none 0 0) (.slice none 0 0))) 81)
 have hs2 := HB2.size
 obtain ⟨W3, hW3⟩ : ∃ W3, w2.alloc (.cells (twA (twN c (.slice p1 c.st.length q1) (.slice p2 1 q2) (.slice none 0 0) (.slice none 0 0) (.slice none 0 0))) 81) = W3 := ⟨_, rfl⟩
 rw [hW3] at hbn hF3 hC3 hB3
 rw [hW3]
 have HBN := Lib.hid hbn
 have hd := (Below.refl W3.heap.size W3).drew
 have HSS := Lib.hid (show ∀ W', Below W3.heap.size W3 W' → W'.cell? ⟨w.heap.size + 1, 0, none⟩ = some (.slice none 0 0) ∧ W'.cell? ⟨w.heap.size + 1, 1, none⟩ = some (.slice none 0 0) from fun W' hh => ⟨(hF3.kept hh).cell rfl, (hF3.kept hh).cell rfl⟩)
 have HF3 := Lib.hid hF3
 have HC3 := Lib.hid hC3
 have HB3 := Lib.hid hB3
 have hs3 : w2.heap.size < W3.heap.size := hbn.lt
 clear hbn hF3 hC3 hB3
 refine wp_region_held_drew (S := fun W' => W'.cell? ⟨w.heap.size + 1, 0, none⟩ = some (.slice none 0 0) ∧ W'.cell? ⟨w.heap.size + 1, 1, none⟩ = some (.slice none 0 0)) (by kernel_rfl) (HSS.out _ hd) (fun hHeld => ?_)
 refine tkH 0 ?_
 try simp only [pt]
 refine tkH 1 ?_
 try simp only [pt]
 refine tkH 2 ?_
 try simp only [pt]
 refine tkH 4 ?_
 try simp only [pt]
 refine tkH 5 ?_
 try simp only [pt]
 refine rdy [3] ?_
 refine' arC rfl (fun KK hKK => ?a3) AllReadyH.nil
 go_simp
 refine (clone_bytes _ 0 [] _ (Or.inl ⟨rfl, rfl, _, _, rfl⟩) rfl (by omega) (by simp)).mono ?_; rintro e w4 ⟨v4, rfl, ho4, hb4⟩; obtain ⟨p4, q4, rfl⟩ := (own_rd ho4).form; have hB4 := hd.trans (hb4.mono hd.size)
 refine hKK.out _ _ (HSS.out _ hB4) (fun _ => ?_)
 clear hKK KK
 try simp only [pt]
 refine rdy [6] ?_
 refine' arC rfl (fun KK hKK => ?a6) AllReadyH.nil
 go_simp
 refine (clone_bytes _ 0 [] _ (Or.inl ⟨rfl, rfl, _, _, rfl⟩) rfl (by omega) (by simp)).mono ?_; rintro e w5 ⟨v5, rfl, ho5, hb5⟩; obtain ⟨p5, q5, rfl⟩ := (own_rd ho5).form; have hB5 := hB4.trans (hb5.mono hB4.size)
 refine hKK.out _ _ (HSS.out _ hB5) (fun _ => ?_)
 clear hKK KK
 try simp only [pt]
 refine tkH 7 ?_
 try simp only [pt]
 refine tkH 8 ?_
 try simp only [pt]
 refine tkH 9 ?_
 try simp only [pt]
 refine tkH 10 ?_
 try simp only [pt]
 have hbn5 := HBN.out.kept hB5
 have y85 := hbn5.cell (i := 85) (v := .slice none 0 0) rfl
 have y86 := hbn5.cell (i := 86) (v := .slice none 0 0) rfl
 have z85 := hbn5.free 85
 have z86 := hbn5.free 86
 have hlt2 := HC2.out.lt
 have hltF := HF2.out.lt
 have hF5 := ((HF3.out.kept hB5).other (a := ⟨w2.heap.size, 85, none⟩) (by show w.heap.size + 1 ≠ w2.heap.size; omega) (.slice p4 0 q4)).other (a := ⟨w2.heap.size, 86, none⟩) (by show w.heap.size + 1 ≠ w2.heap.size; omega) (.slice p5 0 q5)
 have hC5 := ((HC3.out.kept hB5).other (a := ⟨w2.heap.size, 85, none⟩) (by show w.heap.size ≠ w2.heap.size; omega) (.slice p4 0 q4)).other (a := ⟨w2.heap.size, 86, none⟩) (by show w.heap.size ≠ w2.heap.size; omega) (.slice p5 0 q5)
 refine rdy [11] ?_
 refine' arC rfl (fun KK hKK => ?a11) AllReadyH.nil
 go_simp
 refine hKK.out _ _ (⟨hF5.cell rfl, hF5.cell rfl⟩) (fun _ => ?_)
 clear hKK KK
 try simp only [pt]
 refine wpAnyH_done (by kernel_rfl) ?_ _
 have hb6 : BlockIs _ w2.heap.size (twA (twN c (.slice p1 c.st.length q1) (.slice p2 1 q2) (.slice none 0 0) (.slice p4 0 q4) (.slice p5 0 q5))) 81 := (hbn5.set 85 (.slice p4 0 q4)).set 86 (.slice p5 0 q5)
 have hX6 : Turn (fun k => k = w2.heap.size) w5 ((w5.setCell ⟨w2.heap.size, 85, none⟩ (.slice p4 0 q4)).setCell ⟨w2.heap.size, 86, none⟩ (.slice p5 0 q5)) := ((Turn.refl (fun k => k = w2.heap.size) w5).setCell rfl 85 _).setCell rfl 86 _
 have hs5 : W3.heap.size ≤ w5.heap.size := hB5.size
 have hX26 : Turn (fun k => k = w2.heap.size) w2 ((w5.setCell ⟨w2.heap.size, 85, none⟩ (.slice p4 0 q4)).setCell ⟨w2.heap.size, 86, none⟩ (.slice p5 0 q5)) := ((Turn.of HB3.out).trans (Turn.of hB5)).trans hX6
 obtain ⟨W6, hW6⟩ : ∃ W6, (w5.setCell ⟨w2.heap.size, 85, none⟩ (.slice p4 0 q4)).setCell ⟨w2.heap.size, 86, none⟩ (.slice p5 0 q5) = W6 := ⟨_, rfl⟩
 rw [hW6] at hb6 hX6 hX26 hC5
 rw [hW6]
 have hs6 : w5.heap.size ≤ W6.heap.size := hX6.size
 have k1 := hC5.cell (i := 1) (v := .int .i64 c.ca) rfl
 have HB6 := Lib.hid hb6
 have HX26 := Lib.hid hX26
 clear hHeld hd hb4 hB4 hb5 hB5 ho4 ho5 hbn5 y85 y86 z85 z86 hF5 hC5 hb6 hX6 hX26 hW6 HSS HC3 HF3 HB3 HBN hc2 HC2 HF2
 go_wp2_with (at_make; refine wpList_make_full _ rfl (.tmp 30) (.tmp 30) 77 rfl W6.heap.size 87 i0 (.agg li0.toArray) 10 Tryz.underlying77 (hi0 ()) hz0 hz1 .i64 .i64 _ _ n rfl rfl rfl rfl (by rw [hz2]; omega) (by unfold maxLen; omega) (Nat.le_refl _) ?_)
 intro w7 hown hgrow
 have hb7 := HB6.out.kept (below_grown hgrow)
 have hlt6 := HB6.out.lt
 have hlt7 := (hown.lt _ rfl).2
 have hli := lib_made hown
 have y82 := hb7.cell (i := 82) (v := .slice none 0 0) rfl
 have z82 := hb7.free 82
 have hb8 : BlockIs _ w2.heap.size (twA (twN c (.slice p1 c.st.length q1) (.slice p2 1 q2) (.slice (some ⟨W6.heap.size, 0, none⟩) n n) (.slice p4 0 q4) (.slice p5 0 q5))) 81 := hb7.set 82 (.slice (some ⟨W6.heap.size, 0, none⟩) n n)
 have hX8 := (HX26.out.trans (Turn.of (below_grown hgrow))).setCell rfl 82 (.slice (some ⟨W6.heap.size, 0, none⟩) n n)
 have hli8 := hli.turn (((Turn.refl (fun k => k = w2.heap.size) w7)).setCell rfl 82 (.slice (some ⟨W6.heap.size, 0, none⟩) n n)) (by omega)
 have HB8 := Lib.hid hb8
 have HX8 := Lib.hid hX8
 have HL8 := Lib.hid hli8
 clear hb7 hb8 hX8 hli8 hli hown hgrow k1 HB6 HX26
 go_upto_region 7 with fail
 obtain ⟨W8, hW8⟩ : ∃ W8, w7.setCell ⟨w2.heap.size, 82, none⟩ (.slice (some ⟨W6.heap.size, 0, none⟩) n n) = W8 := ⟨_, rfl⟩
 have hs8 : w7.heap.size ≤ W8.heap.size := by rw [← hW8]; simp
 rw [hW8] at HB8 HX8 HL8
 rw [hW8]
 clear hW8 y82 z82
 go_wp2_with fail
 refine (tstart_none w2.heap.size W6.heap.size n n (twN c (.slice p1 c.st.length q1) (.slice p2 1 q2) (.slice (some ⟨W6.heap.size, 0, none⟩) n n) (.slice p4 0 q4) (.slice p5 0 q5)) W8 HB8.out HL8.out rfl hn8 (by omega) rfl rfl p4 p5 q4 q5 rfl rfl).mono ?_
 rintro e w9 ⟨rfl, hB9, hT9⟩
 have HB9 := Lib.hid hB9
 have HT9 := Lib.hid hT9
 clear hB9 hT9
 go_wp2_with fail
 go_ret2
 have HX9 := HX8.out.trans HT9.out
 refine ⟨w2.heap.size, W6.heap.size, n, n, _, p4, q4, p5, q5, rfl, rfl, ⟨HB9.out, HL8.out.turn HT9.out (by omega), rfl, hn, by omega, HTA2.out.turn HX9 (by omega) (by omega), by omega, by omega, by omega, by omega⟩, ⟨⟨rd_turn HX9 (own_rd HO1.out) (fun k hk _ => by have := (HO1.out.lt k hk).2; omega), rd_turn HX9 (own_rd HO2.out) (fun k hk _ => by have := (HO2.out.lt k hk).2; omega)⟩, fun k hk => by have := (HO1.out.lt k hk).2; omega, fun k hk => by have := (HO2.out.lt k hk).2; omega⟩, rfl, rfl, ?_⟩
 exact ⟨HB2.trans (HX9.below hs2 (by intro k hk; omega)), by omega, by omega⟩
end Go.Proofs.YtfnifgppblbjhaaGreatDoor
