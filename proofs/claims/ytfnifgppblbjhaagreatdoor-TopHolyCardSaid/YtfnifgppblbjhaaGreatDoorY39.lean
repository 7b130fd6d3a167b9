/- Part of the proof of TopHoly. -/
import Derived.Test.YtfnifgppblbjhaaGreatDoorY01
import Derived.Test.YtfnifgppblbjhaaGreatDoorY22
import Derived.Test.YtfnifgppblbjhaaGreatDoorY28
import Derived.Test.YtfnifgppblbjhaaGreatDoorY32
import Derived.Test.YtfnifgppblbjhaaGreatDoorY34
namespace Go.Proofs.YtfnifgppblbjhaaGreatDoor
set_option maxHeartbeats 8000000
open Go Go.RowKit
set_option linter.unusedVariables false
set_option linter.unusedSimpArgs false
theorem tpress_any (b lb n cap : Nat) (x : Tw) (g : Gr) (up : Bool) (ck : Int) (vu : Value) (w : World) (hT : TwC w b lb n cap x) (h0 : CfgOk x.c) (hm : x.mode = 0 ∨ x.mode = 1 ∨ x.mode = 2) (hg : GrOk g) (hh : x.ha = .slice none 0 0) (hi : x.hi = .slice none 0 0) :
  Calls Tryz.prog 26 #[.pointer (some ⟨b, 0, none⟩), .agg (inA up ck vu), .agg (grA g)] w fun e w' => ∃ p c q d, e = .returned (.tuple #[]) ∧ TwC w' b lb n cap { x with ha := .slice p 0 c, hi := .slice q 0 d } ∧ Turn (fun k => k = b) w w' := by
 have hn1 : 1 ≤ n := by have h1 := h0.ca1; have h2 := hT.ca; omega
 have hn8 : n ≤ 8 := by have h1 := h0.ca2; have h2 := hT.ca; omega
 have fin : ∀ w' p c q d, BlockIs w' b (twA { x with ha := .slice p 0 c, hi := .slice q 0 d }) 81 → Turn (fun k => k = b) w w' → TwC w' b lb n cap { x with ha := .slice p 0 c, hi := .slice q 0 d } := fun w' p c q d hb ht => ⟨hb, hT.li.turn ht hT.ne, hT.lf, hT.ca, hT.ne, hT.tab.turn ht hT.b1 hT.b2, hT.b1, hT.b2, hT.l1, hT.l2⟩
 rcases hm with hm | hm
 ·refine (tpress_ok b x g lb n cap up ck vu w hT.blk hm hg hn1 hn8 hT.li.lifts hT.lf hh hi).mono ?_
  rintro e w' ⟨p, c, q, d, rfl, hb, ht⟩
  exact ⟨p, c, q, d, rfl, fin _ _ _ _ _ hb ht, ht⟩
 ·refine (tpress_not b x g up ck vu w hT.blk hm).mono ?_
  rintro e w' ⟨rfl, hb⟩
  have e2 : { x with ha := Value.slice none 0 0, hi := Value.slice none 0 0 } = x := by cases x; simp_all
  have hk : BlockIs w' b (twA { x with ha := .slice none 0 0, hi := .slice none 0 0 }) 81 := by rw [e2]; exact hT.blk.kept hb
  exact ⟨none, 0, none, 0, rfl, fin _ _ _ _ _ hk (Turn.of hb), Turn.of hb⟩
theorem tmove_any (b lb n cap : Nat) (x : Tw) (up : Bool) (ck : Int) (vu : Value) (g : Gr) (w : World) (hT : TwC w b lb n cap x) (hV : TwV w b lb x) (h0 : CfgOk x.c) (hg : GrOk g) (hage : x.age = 0) (hm : x.mode = 0 ∨ x.mode = 1 ∨ x.mode = 2) (p q : Option Addr) (pc qc : Nat) (hha : x.ha = .slice p 0 pc) (hhi : x.hi = .slice q 0 qc) :
  Calls Tryz.prog 27 #[.pointer (some ⟨b, 0, none⟩), .agg (inA up ck vu), .agg (grA g)] w fun e w' => ∃ ob oc, e = .returned (.slice (some ⟨ob, 0, none⟩) n oc) ∧ BlockIs w' b (twA x) 81 ∧ Turn (fun k => k = lb) w w' := by
 rcases hm with hm | hm
 ·exact tmove_norm b lb n cap x up ck vu g w hT h0 hg p q pc qc hha hhi hm
 ·exact tmove_auto b lb n cap x up ck vu g w hT hV h0 hage hm
theorem TwC.turn {W W' : World} {b lb n cap : Nat} {x : Tw} (h : TwC W b lb n cap x) {T : Nat → Prop} (ht : Turn T W W') (h1 : ¬ T b) (h2 : ¬ T lb) (h3 : ¬ T 2) (h4 : ¬ T 1) : TwC W' b lb n cap x :=
 ⟨ht.at h.blk h1, h.li.turn ht h2, h.lf, h.ca, h.ne, h.tab.turn ht h3 h4, h.b1, h.b2, h.l1, h.l2⟩
theorem TwC.below {W W' : World} {b lb n cap : Nat} {x : Tw} (h : TwC W b lb n cap x) (hb : Below W.heap.size W W') : TwC W' b lb n cap x := h.turn (T := fun _ => False) (Turn.of hb) id id id id
theorem TwV.turn {W W' : World} {b lb : Nat} {x : Tw} (h : TwV W b lb x) {T : Nat → Prop} (ht : Turn T W W') (hT : ∀ k, T k → k = b ∨ k = lb) : TwV W' b lb x :=
 ⟨⟨rd_turn ht h.m.s (fun k hk _ hk2 => by have h1 := h.v k hk; have h2 := hT k hk2; omega), rd_turn ht h.m.w (fun k hk _ hk2 => by have h1 := h.w k hk; have h2 := hT k hk2; omega)⟩, h.v, h.w⟩
set_option maxRecDepth 100000 in
theorem tstep_no (b lb n cap : Nat) (x : Tw) (up : Bool) (hup : up = false) (ck : Int) (vu : Value) (k0 m0 m : Int) (w : World) (hT : TwC w b lb n cap x) (hV : TwV w b lb x) (hF : TwF w b lb x 1 k0 m0 (cfgB x.c)) (h0 : CfgOk x.c) (ho : x.own = true) (hst : x.st = false) (hhs : x.hs = false) (hnow : x.now = 0) (hcand : x.cand = 0) (hmode : x.mode = 3) (hgen : x.gen = 1)
  (hk0 : I64 k0) (m01 : 0 ≤ m0) (m02 : m0 ≤ 5) (ck1 : 0 ≤ ck) (ck2 : ck ≤ 5258879999) (hm1 : 0 ≤ m) (hm2 : m ≤ 2) (hM : ModeC x.c x.v x.w ck m) :
  Calls Tryz.prog 9 #[.pointer (some ⟨b, 0, none⟩), .agg (inA up ck vu)] w fun e w' => ∃ po oc p2 c2 q2 d2, e = .returned (.agg #[.int .i64 m, .int .i64 0, .int .i64 0, .bool false, .slice po n oc, .slice p2 0 c2, .slice q2 0 d2]) ∧ Turn (fun k => k = b ∨ k = lb) w w' := by
 have hI := (BlockIs.new w (inA up ck vu) 54).alloc (.cells #[.int .i64 0, .int .i64 0, .int .i64 0, .bool false, .slice none 0 0, .slice none 0 0, .slice none 0 0] 49)
 have hS := BlockIs.new (w.alloc (.cells (inA up ck vu) 54)) #[.int .i64 0, .int .i64 0, .int .i64 0, .bool false, .slice none 0 0, .slice none 0 0, .slice none 0 0] 49
 simp only [World.size_alloc] at hS
 have HB := (((Below.refl w.heap.size w).alloc (by exact Nat.le_refl _) (.cells (inA up ck vu) 54)).alloc (by simp only [World.size_alloc]; omega) (.cells #[.int .i64 0, .int .i64 0, .int .i64 0, .bool false, .slice none 0 0, .slice none 0 0, .slice none 0 0] 49))
 have hbl := hT.blk.lt
 have i1 := hI.cell (i := 1) (v := .bool false) (by rw [hup]; rfl)
 obtain ⟨W, hW⟩ : ∃ W, (w.alloc (.cells (inA up ck vu) 54)).alloc (.cells #[.int .i64 0, .int .i64 0, .int .i64 0, .bool false, .slice none 0 0, .slice none 0 0, .slice none 0 0] 49) = W := ⟨_, rfl⟩
 rw [hW] at hI hS HB i1
 have hT1 : TwC W b lb n cap x := ⟨hT.blk.kept HB, hT.li.turn (T := fun k => k = b) (Turn.of HB) hT.ne, hT.lf, hT.ca, hT.ne, hT.tab.below HB, hT.b1, hT.b2, hT.l1, hT.l2⟩
 have hV1 : TwV W b lb x := ⟨hV.m.below HB, hV.v, hV.w⟩
 have hF1 : TwF W b lb x 1 k0 m0 (cfgB x.c) := ⟨hF.a.below HB, hF.na, hF.fb⟩
 have HTELL := Lib.hid (ttell_ok b lb n cap x up false ck vu k0 m0 m W hT1 hV1 hF1 h0 ho hst hhs hnow hcand hmode hgen hk0 m01 m02 ck1 ck2 hm1 hm2 hM)
 have HI := Lib.hid hI
 have HS := Lib.hid hS
 have HB := Lib.hid HB
 have HW := Lib.hid hW
 have H0 := Lib.hid h0
 have hsW : w.heap.size + 1 + 1 = W.heap.size := by rw [← hW]; simp
 have hlb : lb < w.heap.size := World.block_lt_of_cell? w _ (hT.li.at' 0 (Nat.le_refl _) (by have h1 := h0.ca1; have h2 := hT.ca; omega) 0 _ rfl)
 have HX := Lib.hid (And.intro ho hmode)
 have hri : W.rangeAt w.heap.size 0 (inA up ck vu).toList := block_sub HI.out 0 10
 clear hI hS hW hT1 hV1 hF1 hT hV hF h0 ho hst hhs hnow hcand hmode hgen hM hup
 go_enter Tryz.func9, Tryz.ntmps9
 go_upto_region 2 with fail
 rw [HW.out]
 go_wp2_with ((with_reducible show wpList _ _ _ _ _ _); refine wl_any 54 (.tmp 3) (inA up ck vu).toList w.heap.size 0 _ Tryz.underlying54 rfl input_info ?_ ?_ ?_ hri ?_; rfl; rfl; rfl)
 refine HTELL.out.mono ?_; rintro e w2 ⟨fa, fb, rfl, hT2, hV2, hX2⟩
 obtain ⟨x2, hx2⟩ : ∃ x2, { x with st := true, hs := false, now := ck, cand := 0, mode := m, age := 0, ha := .slice none 0 0, hi := .slice none 0 0, gen := 2, fa := fa, fb := fb } = x2 := ⟨_, rfl⟩
 rw [hx2] at hT2 hV2
 have q1 : x2.mode = m := by rw [← hx2]
 have q2 : x2.age = 0 := by rw [← hx2]
 have q3 : x2.own = true := by rw [← hx2]; exact HX.out.1
 have q4 : x2.ha = .slice none 0 0 := by rw [← hx2]
 have q5 : x2.hi = .slice none 0 0 := by rw [← hx2]
 have q6 : CfgOk x2.c := by rw [← hx2]; exact H0.out
 have HI2 := Lib.hid (hX2.at HI.out (by omega))
 have HS2 := Lib.hid (hX2.at HS.out (by omega))
 have i2 := HI2.out.cell (i := 2) (v := .bool false) rfl
 have HX2 := Lib.hid (Turn.trans (T := fun k => k = b ∨ k = lb) (Turn.of HB.out) (hX2.mono (fun k hk => Or.inl hk)))
 have hs2 := hX2.size
 have H02 := Lib.hid q6
 have HQ := Lib.hid (And.intro q1 (And.intro q2 (And.intro q3 (And.intro q4 q5))))
 have HT2 := Lib.hid hT2
 have HV2 := Lib.hid hV2
 obtain ⟨g, hge⟩ : ∃ g, gearM x2.c m = g := ⟨_, rfl⟩
 have hgo : GrOk g := by rw [← hge]; exact gearM_ok q6 m
 have hm3 : m = 0 ∨ m = 1 ∨ m = 2 := by omega
 have HG := Lib.hid (show ∀ W', Below w2.heap.size w2 W' → Calls Tryz.prog 25 #[.agg (cfgA x2.c x2.v x2.w), .int .i64 m] W' fun e w' => e = .returned (.tuple #[.agg (grA g), .int .i64 0]) ∧ Below W'.heap.size W' w' from fun W' hh => by rw [← hge]; exact aGear_ok x2.c x2.v x2.w m W' q6 (hV2.m.below hh) hm3)
 have HGO := Lib.hid hgo
 have HSS := Lib.hid (show ∀ W', Below w2.heap.size w2 W' → W'.rangeAt b 37 (cfgA x2.c x2.v x2.w).toList ∧ W'.cell? ⟨b, 80, none⟩ = some (.int .i64 m) from fun W' hh => ⟨block_sub (hT2.blk.kept hh) 37 37, (hT2.blk.kept hh).cell (by rw [← q1]; rfl)⟩)
 clear hri hT2 hV2 hX2 hx2 q1 q2 q3 q4 q5 q6 hge hgo HI HS HB HTELL HW i1
 go_upto_region 16 with fail
 clear i2
 go_cut [10] (fun p10 wc => ∃ gb, p10 = .pointer (some ⟨gb, 0, none⟩) ∧ w2.heap.size ≤ gb ∧ BlockIs wc gb (grA g) 91 ∧ Below w2.heap.size w2 wc)
 case first =>
  have hd := (Below.refl w2.heap.size w2).drew
  refine wp_region_held_drew (S := fun W' => W'.rangeAt b 37 (cfgA x2.c x2.v x2.w).toList ∧ W'.cell? ⟨b, 80, none⟩ = some (.int .i64 m)) (by kernel_rfl) (HSS.out _ hd) (fun hHeld => ?_)
  have hB := hd
  refine tkH 0 ?_
  try simp only [pt]
  refine tkH 1 ?_
  try simp only [pt]
  refine tkH 2 ?_
  try simp only [pt]
  refine tkH 3 ?_
  try simp only [pt]
  refine tkH 5 ?_
  try simp only [pt]
  refine tkH 6 ?_
  try simp only [pt]
  refine tkH 7 ?_
  try simp only [pt]
  refine tkH 8 ?_
  try simp only [pt]
  refine tkH 9 ?_
  try simp only [pt]
  refine tkH 4 ?_ (hy := by (intro w hSw; refine load_x 33 (.tmp 70) (cfgA x2.c x2.v x2.w).toList _ 37 _ Tryz.underlying33 rfl cfg_info ?_ ?_ w (hSw.1) <;> rfl))
  try simp only [pt]
  refine rdy [10, 14] ?_
  refine' arC rfl (fun KK hKK => ?xa10) (arC rfl (fun KK hKK => ?xa14) AllReadyH.nil)
  case xa10 =>
   go_simp
   refine (HG.out _ hB).mono ?_; rintro e w5 ⟨rfl, hb⟩
   have hB := hB.trans (hb.mono hB.size)
   clear hb
   refine hKK.out _ _ (HSS.out _ hB) (fun _ => ?_)
   clear hKK KK
   try simp only [pt]
   refine tkH 11 ?_
   try simp only [pt]
   refine tkH 12 ?_
   try simp only [pt]
   refine tkH 13 ?_
   try simp only [pt]
   refine rdy [14] ?_
   refine' arC rfl (fun KK hKK => ?xaq10q14) AllReadyH.nil
   case xaq10q14 =>
    go_simp
    have habA := hB.size
    try simp only [World.size_alloc] at habA
    have hB := ba hB (.cells #[.int .i64 0, .int .i64 0, .int .i64 0, .int .i64 0, .int .i64 0, .int .i64 0, .int .i64 0, .int .i64 0, .int .i64 0, .int .i64 0] 91) (by first | exact Nat.le_refl _ | omega)
    have hA : BlockIs (w5.alloc (.cells #[.int .i64 0, .int .i64 0, .int .i64 0, .int .i64 0, .int .i64 0, .int .i64 0, .int .i64 0, .int .i64 0, .int .i64 0, .int .i64 0] 91)) (w5.heap.size) #[.int .i64 0, .int .i64 0, .int .i64 0, .int .i64 0, .int .i64 0, .int .i64 0, .int .i64 0, .int .i64 0, .int .i64 0, .int .i64 0] 91 := by have h := BlockIs.new w5 #[.int .i64 0, .int .i64 0, .int .i64 0, .int .i64 0, .int .i64 0, .int .i64 0, .int .i64 0, .int .i64 0, .int .i64 0, .int .i64 0] 91; (try simp only [World.size_alloc] at h); exact h
    refine hKK.out _ _ (HSS.out _ hB) (fun _ => ?_)
    clear hKK KK
    try simp only [pt]
    have hF9 := hA.row (grA g)
    have hB9 := below_setRow hB (b := (w5.heap.size)) habA (grA g)
    refine rdy [15] ?_
    refine' arC rfl (fun KK hKK => ?aq10qq14qt15) AllReadyH.nil
    refine wp_store_row 91 (.tmp 10) (.tmp 78) rfl _ (grA g) rfl rfl 91 _ hA gear_info rfl (by simp [grA, Value.oneCell']) ?_
    refine hKK.out _ _ (HSS.out _ hB9) (fun _ => ?_)
    clear hKK KK
    try simp only [pt]
    refine tkH 16 ?_
    try simp only [pt]
    refine wpAnyH_done (by kernel_rfl) ?_ _
    clear hHeld
    go_wp2_with fail
    go_meet
    exact ⟨_, rfl, by omega, hF9, hB9⟩
  case xa14 =>
   go_simp
   have habA := hB.size
   try simp only [World.size_alloc] at habA
   have hB := ba hB (.cells #[.int .i64 0, .int .i64 0, .int .i64 0, .int .i64 0, .int .i64 0, .int .i64 0, .int .i64 0, .int .i64 0, .int .i64 0, .int .i64 0] 91) (by first | exact Nat.le_refl _ | omega)
   have hA : BlockIs (w2.drew.alloc (.cells #[.int .i64 0, .int .i64 0, .int .i64 0, .int .i64 0, .int .i64 0, .int .i64 0, .int .i64 0, .int .i64 0, .int .i64 0, .int .i64 0] 91)) (w2.heap.size) #[.int .i64 0, .int .i64 0, .int .i64 0, .int .i64 0, .int .i64 0, .int .i64 0, .int .i64 0, .int .i64 0, .int .i64 0, .int .i64 0] 91 := by have h := BlockIs.new w2.drew #[.int .i64 0, .int .i64 0, .int .i64 0, .int .i64 0, .int .i64 0, .int .i64 0, .int .i64 0, .int .i64 0, .int .i64 0, .int .i64 0] 91; (try simp only [World.size_alloc] at h); exact h
   refine hKK.out _ _ (HSS.out _ hB) (fun _ => ?_)
   clear hKK KK
   try simp only [pt]
   refine rdy [10] ?_
   refine' arC rfl (fun KK hKK => ?xaq14q10) AllReadyH.nil
   case xaq14q10 =>
    go_simp
    refine (HG.out _ hB).mono ?_; rintro e w5 ⟨rfl, hb⟩
    have hB := hB.trans (hb.mono hB.size)
    have hA := hA.kept hb
    clear hb
    refine hKK.out _ _ (HSS.out _ hB) (fun _ => ?_)
    clear hKK KK
    try simp only [pt]
    refine tkH 11 ?_
    try simp only [pt]
    refine tkH 12 ?_
    try simp only [pt]
    refine tkH 13 ?_
    try simp only [pt]
    have hF9 := hA.row (grA g)
    have hB9 := below_setRow hB (b := (w2.heap.size)) habA (grA g)
    refine rdy [15] ?_
    refine' arC rfl (fun KK hKK => ?aq14qq10qt15) AllReadyH.nil
    refine wp_store_row 91 (.tmp 10) (.tmp 78) rfl _ (grA g) rfl rfl 91 _ hA gear_info rfl (by simp [grA, Value.oneCell']) ?_
    refine hKK.out _ _ (HSS.out _ hB9) (fun _ => ?_)
    clear hKK KK
    try simp only [pt]
    refine tkH 16 ?_
    try simp only [pt]
    refine wpAnyH_done (by kernel_rfl) ?_ _
    clear hHeld
    go_wp2_with fail
    go_meet
    exact ⟨_, rfl, by omega, hF9, hB9⟩
 case rest =>
  obtain ⟨gb, rfl, hgb, hGB, hB⟩ := hcut
  have hTc := HT2.out.below hB
  have hVc := HV2.out.turn (T := fun _ => False) (Turn.of hB) (fun k hk => hk.elim)
  have HIc := Lib.hid (HI2.out.kept hB)
  have HSc := Lib.hid (HS2.out.kept hB)
  have HGB := Lib.hid hGB
  have hsc := hB.size
  have hr1 : wc.rangeAt w.heap.size 0 (inA up ck vu).toList := block_sub HIc.out 0 10
  have hr2 : wc.rangeAt gb 0 (grA g).toList := block_sub HGB.out 0 10
  have HXc := Lib.hid (HX2.out.trans (Turn.of hB))
  have HP := Lib.hid (tpress_any b lb n cap x2 g up ck vu wc hTc H02.out (by rw [HQ.out.1]; exact hm3) HGO.out HQ.out.2.2.2.1 HQ.out.2.2.2.2)
  have HVc := Lib.hid hVc
  clear hTc hVc hGB hB HT2 HV2 HI2 HS2 HSS HG HX2
  go_wp2_with (first | ((with_reducible show wpList _ _ _ _ _ _); refine wl_any 54 (.tmp 3) (inA up ck vu).toList w.heap.size 0 _ Tryz.underlying54 rfl input_info ?_ ?_ ?_ hr1 ?_; rfl; rfl; rfl) | ((with_reducible show wpList _ _ _ _ _ _); refine wl_any 91 (.tmp 10) (grA g).toList gb 0 _ Tryz.underlying91 rfl gear_info ?_ ?_ ?_ hr2 ?_; rfl; rfl; rfl))
  refine HP.out.mono ?_; rintro e w3 ⟨p, c, q, d, rfl, hT3, ht3⟩
  obtain ⟨x3, hx3⟩ : ∃ x3, { x2 with ha := .slice p 0 c, hi := .slice q 0 d } = x3 := ⟨_, rfl⟩
  rw [hx3] at hT3
  have hV3 : TwV w3 b lb x3 := by rw [← hx3]; exact ⟨(HVc.out.turn ht3 (fun k hk => Or.inl hk)).m, HVc.out.v, HVc.out.w⟩
  have r1 : x3.mode = m := by rw [← hx3]; exact HQ.out.1
  have r2 : x3.age = 0 := by rw [← hx3]; exact HQ.out.2.1
  have r3 : x3.own = true := by rw [← hx3]; exact HQ.out.2.2.1
  have r4 : x3.ha = .slice p 0 c := by rw [← hx3]
  have r5 : x3.hi = .slice q 0 d := by rw [← hx3]
  have r6 : CfgOk x3.c := by rw [← hx3]; exact H02.out
  have HI3 := Lib.hid (ht3.at HIc.out (by omega))
  have HS3 := Lib.hid (ht3.at HSc.out (by omega))
  have HG3 := Lib.hid (ht3.at HGB.out (by omega))
  have hs3 := ht3.size
  have HX3 := Lib.hid (HXc.out.trans (ht3.mono (fun k hk => Or.inl hk)))
  have hr3 : w3.rangeAt w.heap.size 0 (inA up ck vu).toList := block_sub HI3.out 0 10
  have hr4 : w3.rangeAt gb 0 (grA g).toList := block_sub HG3.out 0 10
  have HMV := Lib.hid (tmove_any b lb n cap x3 up ck vu g w3 hT3 hV3 r6 HGO.out r2 (by rw [r1]; exact hm3) p q c d r4 r5)
  have HR := Lib.hid (And.intro r1 (And.intro r2 (And.intro r3 (And.intro r4 r5))))
  clear hT3 hV3 hx3 r1 r2 r3 r4 r5 r6 ht3 HIc HSc HGB HXc HP HVc hr1 hr2
  go_wp2_with (first | ((with_reducible show wpList _ _ _ _ _ _); refine wl_any 54 (.tmp 3) (inA up ck vu).toList w.heap.size 0 _ Tryz.underlying54 rfl input_info ?_ ?_ ?_ hr3 ?_; rfl; rfl; rfl) | ((with_reducible show wpList _ _ _ _ _ _); refine wl_any 91 (.tmp 10) (grA g).toList gb 0 _ Tryz.underlying91 rfl gear_info ?_ ?_ ?_ hr4 ?_; rfl; rfl; rfl))
  refine HMV.out.mono ?_; rintro e w4 ⟨ob, oc, rfl, hb4, ht4⟩
  have HS4 := Lib.hid (ht4.at HS3.out (by omega))
  have HX4 := Lib.hid (HX3.out.trans (ht4.mono (fun k hk => Or.inr hk)))
  have hs4 := ht4.size
  have HB4 := Lib.hid hb4
  clear hb4 ht4 HS3 HX3 HI3 HG3 HMV hr3 hr4
  go_wp2_with fail
  refine (tshown_ok b x3 w4 p q c d HB4.out HR.out.2.2.1 HR.out.2.2.2.1 HR.out.2.2.2.2).mono ?_; rintro e w5 ⟨p2, c2, q2, d2, rfl, hb5⟩
  rw [HR.out.1, HR.out.2.1]
  have hs5 := hb5.size
  have k6 := BlockIs.new w5 #[.int .i64 m, .int .i64 0, .int .i64 0, .bool false, .slice none 0 0, .slice p2 0 c2, .slice q2 0 d2] 49
  have hb6 := (HB4.out.kept hb5).alloc (.cells #[.int .i64 m, .int .i64 0, .int .i64 0, .bool false, .slice none 0 0, .slice p2 0 c2, .slice q2 0 d2] 49)
  have hS6 := (HS4.out.kept hb5).alloc (.cells #[.int .i64 m, .int .i64 0, .int .i64 0, .bool false, .slice none 0 0, .slice p2 0 c2, .slice q2 0 d2] 49)
  have hX6 := (Turn.mono (T' := fun k => k = b ∨ k = lb ∨ w.heap.size ≤ k) HX4.out (fun k hk => by omega)).trans ((Turn.of hb5).alloc (.cells #[.int .i64 m, .int .i64 0, .int .i64 0, .bool false, .slice none 0 0, .slice p2 0 c2, .slice q2 0 d2] 49))
  have hbw5 : b < w5.heap.size := (HB4.out.kept hb5).lt
  have hsw5 : w.heap.size + 1 < w5.heap.size := (HS4.out.kept hb5).lt
  obtain ⟨W6, hW6⟩ : ∃ W6, w5.alloc (.cells #[.int .i64 m, .int .i64 0, .int .i64 0, .bool false, .slice none 0 0, .slice p2 0 c2, .slice q2 0 d2] 49) = W6 := ⟨_, rfl⟩
  rw [hW6] at k6 hb6 hS6 hX6
  have HW6 := Lib.hid hW6
  have y4 := k6.cell (i := 4) (v := .slice none 0 0) rfl
  have f4 := k6.free 4
  have k7 := k6.set 4 (.slice (some ⟨ob, 0, none⟩) n oc)
  have hb7 := hb6.other (a := ⟨w5.heap.size, 4, none⟩) (by show b ≠ w5.heap.size; omega) (.slice (some ⟨ob, 0, none⟩) n oc)
  have hS7 := hS6.other (a := ⟨w5.heap.size, 4, none⟩) (by show w.heap.size + 1 ≠ w5.heap.size; omega) (.slice (some ⟨ob, 0, none⟩) n oc)
  have hX7 := hX6.setCell (b := w5.heap.size) (.inr (.inr (by omega))) 4 (.slice (some ⟨ob, 0, none⟩) n oc)
  obtain ⟨W7, hW7⟩ : ∃ W7, W6.setCell ⟨w5.heap.size, 4, none⟩ (.slice (some ⟨ob, 0, none⟩) n oc) = W7 := ⟨_, rfl⟩
  rw [hW7] at k7 hb7 hS7 hX7
  have HW7 := Lib.hid hW7
  have y81 := hb7.cell (i := 81) (v := .int .i64 0) (by rw [← HR.out.2.1]; rfl)
  have f81 := hb7.free 81
  have k8 := k7.other (a := ⟨b, 81, none⟩) (by show w5.heap.size ≠ b; omega) (.int .i64 1)
  have hS8 := hS7.other (a := ⟨b, 81, none⟩) (by show w.heap.size + 1 ≠ b; omega) (.int .i64 1)
  have hX8 := hX7.setCell (b := b) (.inl rfl) 81 (.int .i64 1)
  obtain ⟨W8, hW8⟩ : ∃ W8, W7.setCell ⟨b, 81, none⟩ (.int .i64 1) = W8 := ⟨_, rfl⟩
  rw [hW8] at k8 hS8 hX8
  have HW8 := Lib.hid hW8
  have hr8 : W8.rangeAt w5.heap.size 0 #[.int .i64 m, .int .i64 0, .int .i64 0, .bool false, .slice (some ⟨ob, 0, none⟩) n oc, .slice p2 0 c2, .slice q2 0 d2].toList := block_sub k8 0 7
  have HS8 := Lib.hid hS8
  have HX9 := Lib.hid (hX8.setRow (b := w.heap.size + 1) (.inr (.inr (by omega))) #[.int .i64 m, .int .i64 0, .int .i64 0, .bool false, .slice (some ⟨ob, 0, none⟩) n oc, .slice p2 0 c2, .slice q2 0 d2])
  have HS9 := Lib.hid (hS8.row #[.int .i64 m, .int .i64 0, .int .i64 0, .bool false, .slice (some ⟨ob, 0, none⟩) n oc, .slice p2 0 c2, .slice q2 0 d2])
  clear k6 hb6 hS6 hX6 k7 hb7 hS7 hX7 k8 hS8 hX8 hW6 hW7 hW8 hb5 HB4 HS4 HX4
  go_upto_region 20 with fail
  rw [HW6.out]
  go_upto_region 21 with fail
  rw [HW7.out]
  clear y4 f4
  go_upto_region 22 with fail
  rw [HW8.out]
  clear y81 f81
  go_wp2_with (first
   | ((with_reducible show wpList _ _ _ _ _ _); refine wl_any 49 (.tmp 13) #[.int .i64 m, .int .i64 0, .int .i64 0, .bool false, .slice (some ⟨ob, 0, none⟩) n oc, .slice p2 0 c2, .slice q2 0 d2].toList w5.heap.size 0 _ Tryz.underlying49 rfl shown_info ?_ ?_ ?_ hr8 ?_; rfl; rfl; rfl)
   | ((with_reducible show wpList _ _ _ _ _ _); refine ws_any 49 (.tmp 4) (.tmp 102) #[.int .i64 m, .int .i64 0, .int .i64 0, .bool false, .slice (some ⟨ob, 0, none⟩) n oc, .slice p2 0 c2, .slice q2 0 d2] (w.heap.size + 1) _ 49 ?_ ?_ ?_ ?_ HS8.out shown_info rfl (by simp [Value.oneCell']) ?_; rfl; rfl; rfl; rfl))
  have hx := HX9.out
  exact bodyPost_ret (res_row rfl _ _ (w.heap.size + 1) 49 _ _ rfl HS9.out Tryz.underlying49 rfl shown_info) rfl ⟨_, _, _, _, _, _, rfl, ⟨hx.os, hx.tape, hx.output, hx.size, fun k hk hn => hx.block k hk (by intro h; omega)⟩⟩
set_option maxRecDepth 100000 in
theorem tstep_up (b lb n cap : Nat) (x0 : Tw) (up : Bool) (hup : up = true) (ck : Int) (vu : Value) (pf qf : Option Addr) (fc fd : Nat) (m : Int) (w : World) (hT : TwC w b lb n cap x0) (h0 : CfgOk x0.c0) (hcc : x0.c.ca = x0.c0.ca) (hm : CfgM w x0.c0 x0.v0 x0.w0) (hn0 : ∀ k, x0.v0.ownBlock = some k → k ≠ b) (hn1 : ∀ k, x0.w0.ownBlock = some k → k ≠ b) (hg : x0.gen = 0) (hst : x0.st = false) (hhs : x0.hs = false) (hnow : x0.now = 0) (hcand : x0.cand = 0) (hmode : x0.mode = 3) (hfa : x0.fa = .slice pf 0 fc) (hfb : x0.fb = .slice qf 0 fd)
  (hvu : Rd w vu (cfgB x0.c0).length (bts (cfgB x0.c0))) (hnu : ∀ k, vu.ownBlock = some k → k ≠ b) (ck1 : 0 ≤ ck) (ck2 : ck ≤ 5258879999) (hm1 : 0 ≤ m) (hm2 : m ≤ 2) (hM : ∀ v w', ModeC x0.c0 v w' ck m) :
  Calls Tryz.prog 9 #[.pointer (some ⟨b, 0, none⟩), .agg (inA up ck vu)] w fun e w' => ∃ po oc p2 c2 q2 d2, e = .returned (.agg #[.int .i64 m, .int .i64 0, .int .i64 0, .bool false, .slice po n oc, .slice p2 0 c2, .slice q2 0 d2]) ∧ Turn (fun k => k = b ∨ k = lb) w w' := by
 have hI := (BlockIs.new w (inA up ck vu) 54).alloc (.cells #[.int .i64 0, .int .i64 0, .int .i64 0, .bool false, .slice none 0 0, .slice none 0 0, .slice none 0 0] 49)
 have hS := BlockIs.new (w.alloc (.cells (inA up ck vu) 54)) #[.int .i64 0, .int .i64 0, .int .i64 0, .bool false, .slice none 0 0, .slice none 0 0, .slice none 0 0] 49
 simp only [World.size_alloc] at hS
 have HB := (((Below.refl w.heap.size w).alloc (by exact Nat.le_refl _) (.cells (inA up ck vu) 54)).alloc (by simp only [World.size_alloc]; omega) (.cells #[.int .i64 0, .int .i64 0, .int .i64 0, .bool false, .slice none 0 0, .slice none 0 0, .slice none 0 0] 49))
 have hbl := hT.blk.lt
 have i1 := hI.cell (i := 1) (v := .bool true) (by rw [hup]; rfl)
 obtain ⟨W0, hW⟩ : ∃ W0, (w.alloc (.cells (inA up ck vu) 54)).alloc (.cells #[.int .i64 0, .int .i64 0, .int .i64 0, .bool false, .slice none 0 0, .slice none 0 0, .slice none 0 0] 49) = W0 := ⟨_, rfl⟩
 rw [hW] at hI hS HB i1
 have hT1 : TwC W0 b lb n cap x0 := hT.below HB
 have HUP := Lib.hid (show Calls Tryz.prog 21 #[.pointer (some ⟨b, 0, none⟩), .agg (inA up ck vu)] W0 _ from by rw [hup]; exact tupload_ok b lb n cap x0 ck vu pf qf fc fd W0 hT1 h0 hcc (hm.below HB) hn0 hn1 hg (by rw [hnow]; unfold I64; omega) (by omega) (by omega) hfa hfb (hvu.below HB) hnu)
 have HI0 := Lib.hid hI
 have HS0 := Lib.hid hS
 have HBB := Lib.hid HB
 have HW := Lib.hid hW
 have H00 := Lib.hid h0
 have hsW0 : w.heap.size + 1 + 1 = W0.heap.size := by rw [← hW]; simp
 have hlb : lb < w.heap.size := World.block_lt_of_cell? w _ (hT.li.at' 0 (Nat.le_refl _) (by have h1 := h0.ca1; have h2 := hT.ca; omega) 0 _ rfl)
 have HF := Lib.hid (And.intro hst (And.intro hhs (And.intro hnow (And.intro hcand hmode))))
 have HMM := Lib.hid hM
 have hri0 : W0.rangeAt w.heap.size 0 (inA up ck vu).toList := block_sub HI0.out 0 10
 clear hI hS hW hT1 hT h0 hcc hm hn0 hn1 hg hst hhs hnow hcand hmode hfa hfb hvu hnu hM hup HB
 go_enter Tryz.func9, Tryz.ntmps9
 go_upto_region 2 with fail
 rw [HW.out]
 go_wp2_with ((with_reducible show wpList _ _ _ _ _ _); refine wl_any 54 (.tmp 3) (inA up ck vu).toList w.heap.size 0 _ Tryz.underlying54 rfl input_info ?_ ?_ ?_ hri0 ?_; rfl; rfl; rfl)
 refine HUP.out.mono ?_; rintro e W ⟨v1, w1, fa0, fb0, rfl, hT1, hV1, hF1, hXU⟩
 obtain ⟨x, hx⟩ : ∃ x, { x0 with c := x0.c0, v := v1, w := w1, own := true, gen := 1, fa := fa0, fb := fb0 } = x := ⟨_, rfl⟩
 rw [hx] at hT1 hV1 hF1
 have h0 : CfgOk x.c := by rw [← hx]; exact H00.out
 have ho : x.own = true := by rw [← hx]
 have hcb : cfgB x0.c0 = cfgB x.c := by rw [← hx]
 rw [hcb] at hF1
 have HTELL := Lib.hid (ttell_ok b lb n cap x up true ck vu x0.now x0.mode m W hT1 hV1 hF1 h0 ho (by rw [← hx]; exact HF.out.1) (by rw [← hx]; exact HF.out.2.1) (by rw [← hx]; exact HF.out.2.2.1) (by rw [← hx]; exact HF.out.2.2.2.1) (by rw [← hx]; exact HF.out.2.2.2.2) (by rw [← hx]) (by have := HF.out.2.2.1; unfold I64; omega) (by have := HF.out.2.2.2.2; omega) (by have := HF.out.2.2.2.2; omega) ck1 ck2 hm1 hm2 (by rw [← hx]; exact HMM.out _ _))
 have hI := hXU.at HI0.out (by omega)
 have hS := hXU.at HS0.out (by omega)
 have i2u := hI.cell (i := 2) (v := .bool false) rfl
 have hri : W.rangeAt w.heap.size 0 (inA up ck vu).toList := block_sub hI 0 10
 have HI := Lib.hid hI
 have HS := Lib.hid hS
 have H0 := Lib.hid h0
 have HX := Lib.hid (And.intro ho (rfl : (3 : Int) = 3))
 have hsW : w.heap.size + 1 + 1 ≤ W.heap.size := by have := hXU.size; omega
 have HX0 := Lib.hid (Turn.trans (T := fun k => k = b ∨ k = lb) (Turn.of HBB.out) (hXU.mono (fun k hk => Or.inl hk)))
 clear hI hS hT1 hV1 hF1 h0 ho hcb hx HUP HI0 HS0 HBB HW H00 HF HMM hri0 hXU i1
 go_wp2_with ((with_reducible show wpList _ _ _ _ _ _); refine wl_any 54 (.tmp 3) (inA up ck vu).toList w.heap.size 0 _ Tryz.underlying54 rfl input_info ?_ ?_ ?_ hri ?_; rfl; rfl; rfl)
 refine HTELL.out.mono ?_; rintro e w2 ⟨fa, fb, rfl, hT2, hV2, hX2⟩
 obtain ⟨x2, hx2⟩ : ∃ x2, { x with st := true, hs := false, now := ck, cand := 0, mode := m, age := 0, ha := .slice none 0 0, hi := .slice none 0 0, gen := 2, fa := fa, fb := fb } = x2 := ⟨_, rfl⟩
 rw [hx2] at hT2 hV2
 have q1 : x2.mode = m := by rw [← hx2]
 have q2 : x2.age = 0 := by rw [← hx2]
 have q3 : x2.own = true := by rw [← hx2]; exact HX.out.1
 have q4 : x2.ha = .slice none 0 0 := by rw [← hx2]
 have q5 : x2.hi = .slice none 0 0 := by rw [← hx2]
 have q6 : CfgOk x2.c := by rw [← hx2]; exact H0.out
 have HI2 := Lib.hid (hX2.at HI.out (by omega))
 have HS2 := Lib.hid (hX2.at HS.out (by omega))
 have i2 := HI2.out.cell (i := 2) (v := .bool false) rfl
 have HX2 := Lib.hid (Turn.trans (T := fun k => k = b ∨ k = lb) HX0.out (hX2.mono (fun k hk => Or.inl hk)))
 have hs2 := hX2.size
 have H02 := Lib.hid q6
 have HQ := Lib.hid (And.intro q1 (And.intro q2 (And.intro q3 (And.intro q4 q5))))
 have HT2 := Lib.hid hT2
 have HV2 := Lib.hid hV2
 obtain ⟨g, hge⟩ : ∃ g, gearM x2.c m = g := ⟨_, rfl⟩
 have hgo : GrOk g := by rw [← hge]; exact gearM_ok q6 m
 have hm3 : m = 0 ∨ m = 1 ∨ m = 2 := by omega
 have HG := Lib.hid (show ∀ W', Below w2.heap.size w2 W' → Calls Tryz.prog 25 #[.agg (cfgA x2.c x2.v x2.w), .int .i64 m] W' fun e w' => e = .returned (.tuple #[.agg (grA g), .int .i64 0]) ∧ Below W'.heap.size W' w' from fun W' hh => by rw [← hge]; exact aGear_ok x2.c x2.v x2.w m W' q6 (hV2.m.below hh) hm3)
 have HGO := Lib.hid hgo
 have HSS := Lib.hid (show ∀ W', Below w2.heap.size w2 W' → W'.rangeAt b 37 (cfgA x2.c x2.v x2.w).toList ∧ W'.cell? ⟨b, 80, none⟩ = some (.int .i64 m) from fun W' hh => ⟨block_sub (hT2.blk.kept hh) 37 37, (hT2.blk.kept hh).cell (by rw [← q1]; rfl)⟩)
 clear hri hT2 hV2 hX2 hx2 q1 q2 q3 q4 q5 q6 hge hgo HI HS HTELL i2u HX0
 go_upto_region 16 with fail
 clear i2
 go_cut [10] (fun p10 wc => ∃ gb, p10 = .pointer (some ⟨gb, 0, none⟩) ∧ w2.heap.size ≤ gb ∧ BlockIs wc gb (grA g) 91 ∧ Below w2.heap.size w2 wc)
 case first =>
  have hd := (Below.refl w2.heap.size w2).drew
  refine wp_region_held_drew (S := fun W' => W'.rangeAt b 37 (cfgA x2.c x2.v x2.w).toList ∧ W'.cell? ⟨b, 80, none⟩ = some (.int .i64 m)) (by kernel_rfl) (HSS.out _ hd) (fun hHeld => ?_)
  have hB := hd
  refine tkH 0 ?_
  try simp only [pt]
  refine tkH 1 ?_
  try simp only [pt]
  refine tkH 2 ?_
  try simp only [pt]
  refine tkH 3 ?_
  try simp only [pt]
  refine tkH 5 ?_
  try simp only [pt]
  refine tkH 6 ?_
  try simp only [pt]
  refine tkH 7 ?_
  try simp only [pt]
  refine tkH 8 ?_
  try simp only [pt]
  refine tkH 9 ?_
  try simp only [pt]
  refine tkH 4 ?_ (hy := by (intro w hSw; refine load_x 33 (.tmp 70) (cfgA x2.c x2.v x2.w).toList _ 37 _ Tryz.underlying33 rfl cfg_info ?_ ?_ w (hSw.1) <;> rfl))
  try simp only [pt]
  refine rdy [10, 14] ?_
  refine' arC rfl (fun KK hKK => ?xa10) (arC rfl (fun KK hKK => ?xa14) AllReadyH.nil)
  case xa10 =>
   go_simp
   refine (HG.out _ hB).mono ?_; rintro e w5 ⟨rfl, hb⟩
   have hB := hB.trans (hb.mono hB.size)
   clear hb
   refine hKK.out _ _ (HSS.out _ hB) (fun _ => ?_)
   clear hKK KK
   try simp only [pt]
   refine tkH 11 ?_
   try simp only [pt]
   refine tkH 12 ?_
   try simp only [pt]
   refine tkH 13 ?_
   try simp only [pt]
   refine rdy [14] ?_
   refine' arC rfl (fun KK hKK => ?xaq10q14) AllReadyH.nil
   case xaq10q14 =>
    go_simp
    have habA := hB.size
    try simp only [World.size_alloc] at habA
    have hB := ba hB (.cells #[.int .i64 0, .int .i64 0, .int .i64 0, .int .i64 0, .int .i64 0, .int .i64 0, .int .i64 0, .int .i64 0, .int .i64 0, .int .i64 0] 91) (by first | exact Nat.le_refl _ | omega)
    have hA : BlockIs (w5.alloc (.cells #[.int .i64 0, .int .i64 0, .int .i64 0, .int .i64 0, .int .i64 0, .int .i64 0, .int .i64 0, .int .i64 0, .int .i64 0, .int .i64 0] 91)) (w5.heap.size) #[.int .i64 0, .int .i64 0, .int .i64 0, .int .i64 0, .int .i64 0, .int .i64 0, .int .i64 0, .int .i64 0, .int .i64 0, .int .i64 0] 91 := by have h := BlockIs.new w5 #[.int .i64 0, .int .i64 0, .int .i64 0, .int .i64 0, .int .i64 0, .int .i64 0, .int .i64 0, .int .i64 0, .int .i64 0, .int .i64 0] 91; (try simp only [World.size_alloc] at h); exact h
    refine hKK.out _ _ (HSS.out _ hB) (fun _ => ?_)
    clear hKK KK
    try simp only [pt]
    have hF9 := hA.row (grA g)
    have hB9 := below_setRow hB (b := (w5.heap.size)) habA (grA g)
    refine rdy [15] ?_
    refine' arC rfl (fun KK hKK => ?aq10qq14qt15) AllReadyH.nil
    refine wp_store_row 91 (.tmp 10) (.tmp 78) rfl _ (grA g) rfl rfl 91 _ hA gear_info rfl (by simp [grA, Value.oneCell']) ?_
    refine hKK.out _ _ (HSS.out _ hB9) (fun _ => ?_)
    clear hKK KK
    try simp only [pt]
    refine tkH 16 ?_
    try simp only [pt]
    refine wpAnyH_done (by kernel_rfl) ?_ _
    clear hHeld
    go_wp2_with fail
    go_meet
    exact ⟨_, rfl, by omega, hF9, hB9⟩
  case xa14 =>
   go_simp
   have habA := hB.size
   try simp only [World.size_alloc] at habA
   have hB := ba hB (.cells #[.int .i64 0, .int .i64 0, .int .i64 0, .int .i64 0, .int .i64 0, .int .i64 0, .int .i64 0, .int .i64 0, .int .i64 0, .int .i64 0] 91) (by first | exact Nat.le_refl _ | omega)
   have hA : BlockIs (w2.drew.alloc (.cells #[.int .i64 0, .int .i64 0, .int .i64 0, .int .i64 0, .int .i64 0, .int .i64 0, .int .i64 0, .int .i64 0, .int .i64 0, .int .i64 0] 91)) (w2.heap.size) #[.int .i64 0, .int .i64 0, .int .i64 0, .int .i64 0, .int .i64 0, .int .i64 0, .int .i64 0, .int .i64 0, .int .i64 0, .int .i64 0] 91 := by have h := BlockIs.new w2.drew #[.int .i64 0, .int .i64 0, .int .i64 0, .int .i64 0, .int .i64 0, .int .i64 0, .int .i64 0, .int .i64 0, .int .i64 0, .int .i64 0] 91; (try simp only [World.size_alloc] at h); exact h
   refine hKK.out _ _ (HSS.out _ hB) (fun _ => ?_)
   clear hKK KK
   try simp only [pt]
   refine rdy [10] ?_
   refine' arC rfl (fun KK hKK => ?xaq14q10) AllReadyH.nil
   case xaq14q10 =>
    go_simp
    refine (HG.out _ hB).mono ?_; rintro e w5 ⟨rfl, hb⟩
    have hB := hB.trans (hb.mono hB.size)
    have hA := hA.kept hb
    clear hb
    refine hKK.out _ _ (HSS.out _ hB) (fun _ => ?_)
    clear hKK KK
    try simp only [pt]
    refine tkH 11 ?_
    try simp only [pt]
    refine tkH 12 ?_
    try simp only [pt]
    refine tkH 13 ?_
    try simp only [pt]
    have hF9 := hA.row (grA g)
    have hB9 := below_setRow hB (b := (w2.heap.size)) habA (grA g)
    refine rdy [15] ?_
    refine' arC rfl (fun KK hKK => ?aq14qq10qt15) AllReadyH.nil
    refine wp_store_row 91 (.tmp 10) (.tmp 78) rfl _ (grA g) rfl rfl 91 _ hA gear_info rfl (by simp [grA, Value.oneCell']) ?_
    refine hKK.out _ _ (HSS.out _ hB9) (fun _ => ?_)
    clear hKK KK
    try simp only [pt]
    refine tkH 16 ?_
    try simp only [pt]
    refine wpAnyH_done (by kernel_rfl) ?_ _
    clear hHeld
    go_wp2_with fail
    go_meet
    exact ⟨_, rfl, by omega, hF9, hB9⟩
 case rest =>
  obtain ⟨gb, rfl, hgb, hGB, hB⟩ := hcut
  have hTc := HT2.out.below hB
  have hVc := HV2.out.turn (T := fun _ => False) (Turn.of hB) (fun k hk => hk.elim)
  have HIc := Lib.hid (HI2.out.kept hB)
  have HSc := Lib.hid (HS2.out.kept hB)
  have HGB := Lib.hid hGB
  have hsc := hB.size
  have hr1 : wc.rangeAt w.heap.size 0 (inA up ck vu).toList := block_sub HIc.out 0 10
  have hr2 : wc.rangeAt gb 0 (grA g).toList := block_sub HGB.out 0 10
  have HXc := Lib.hid (HX2.out.trans (Turn.of hB))
  have HP := Lib.hid (tpress_any b lb n cap x2 g up ck vu wc hTc H02.out (by rw [HQ.out.1]; exact hm3) HGO.out HQ.out.2.2.2.1 HQ.out.2.2.2.2)
  have HVc := Lib.hid hVc
  clear hTc hVc hGB hB HT2 HV2 HI2 HS2 HSS HG HX2
  go_wp2_with (first | ((with_reducible show wpList _ _ _ _ _ _); refine wl_any 54 (.tmp 3) (inA up ck vu).toList w.heap.size 0 _ Tryz.underlying54 rfl input_info ?_ ?_ ?_ hr1 ?_; rfl; rfl; rfl) | ((with_reducible show wpList _ _ _ _ _ _); refine wl_any 91 (.tmp 10) (grA g).toList gb 0 _ Tryz.underlying91 rfl gear_info ?_ ?_ ?_ hr2 ?_; rfl; rfl; rfl))
  refine HP.out.mono ?_; rintro e w3 ⟨p, c, q, d, rfl, hT3, ht3⟩
  obtain ⟨x3, hx3⟩ : ∃ x3, { x2 with ha := .slice p 0 c, hi := .slice q 0 d } = x3 := ⟨_, rfl⟩
  rw [hx3] at hT3
  have hV3 : TwV w3 b lb x3 := by rw [← hx3]; exact ⟨(HVc.out.turn ht3 (fun k hk => Or.inl hk)).m, HVc.out.v, HVc.out.w⟩
  have r1 : x3.mode = m := by rw [← hx3]; exact HQ.out.1
  have r2 : x3.age = 0 := by rw [← hx3]; exact HQ.out.2.1
  have r3 : x3.own = true := by rw [← hx3]; exact HQ.out.2.2.1
  have r4 : x3.ha = .slice p 0 c := by rw [← hx3]
  have r5 : x3.hi = .slice q 0 d := by rw [← hx3]
  have r6 : CfgOk x3.c := by rw [← hx3]; exact H02.out
  have HI3 := Lib.hid (ht3.at HIc.out (by omega))
  have HS3 := Lib.hid (ht3.at HSc.out (by omega))
  have HG3 := Lib.hid (ht3.at HGB.out (by omega))
  have hs3 := ht3.size
  have HX3 := Lib.hid (HXc.out.trans (ht3.mono (fun k hk => Or.inl hk)))
  have hr3 : w3.rangeAt w.heap.size 0 (inA up ck vu).toList := block_sub HI3.out 0 10
  have hr4 : w3.rangeAt gb 0 (grA g).toList := block_sub HG3.out 0 10
  have HMV := Lib.hid (tmove_any b lb n cap x3 up ck vu g w3 hT3 hV3 r6 HGO.out r2 (by rw [r1]; exact hm3) p q c d r4 r5)
  have HR := Lib.hid (And.intro r1 (And.intro r2 (And.intro r3 (And.intro r4 r5))))
  clear hT3 hV3 hx3 r1 r2 r3 r4 r5 r6 ht3 HIc HSc HGB HXc HP HVc hr1 hr2
  go_wp2_with (first | ((with_reducible show wpList _ _ _ _ _ _); refine wl_any 54 (.tmp 3) (inA up ck vu).toList w.heap.size 0 _ Tryz.underlying54 rfl input_info ?_ ?_ ?_ hr3 ?_; rfl; rfl; rfl) | ((with_reducible show wpList _ _ _ _ _ _); refine wl_any 91 (.tmp 10) (grA g).toList gb 0 _ Tryz.underlying91 rfl gear_info ?_ ?_ ?_ hr4 ?_; rfl; rfl; rfl))
  refine HMV.out.mono ?_; rintro e w4 ⟨ob, oc, rfl, hb4, ht4⟩
  have HS4 := Lib.hid (ht4.at HS3.out (by omega))
  have HX4 := Lib.hid (HX3.out.trans (ht4.mono (fun k hk => Or.inr hk)))
  have hs4 := ht4.size
  have HB4 := Lib.hid hb4
  clear hb4 ht4 HS3 HX3 HI3 HG3 HMV hr3 hr4
  go_wp2_with fail
  refine (tshown_ok b x3 w4 p q c d HB4.out HR.out.2.2.1 HR.out.2.2.2.1 HR.out.2.2.2.2).mono ?_; rintro e w5 ⟨p2, c2, q2, d2, rfl, hb5⟩
  rw [HR.out.1, HR.out.2.1]
  have hs5 := hb5.size
  have k6 := BlockIs.new w5 #[.int .i64 m, .int .i64 0, .int .i64 0, .bool false, .slice none 0 0, .slice p2 0 c2, .slice q2 0 d2] 49
  have hb6 := (HB4.out.kept hb5).alloc (.cells #[.int .i64 m, .int .i64 0, .int .i64 0, .bool false, .slice none 0 0, .slice p2 0 c2, .slice q2 0 d2] 49)
  have hS6 := (HS4.out.kept hb5).alloc (.cells #[.int .i64 m, .int .i64 0, .int .i64 0, .bool false, .slice none 0 0, .slice p2 0 c2, .slice q2 0 d2] 49)
  have hX6 := (Turn.mono (T' := fun k => k = b ∨ k = lb ∨ w.heap.size ≤ k) HX4.out (fun k hk => by omega)).trans ((Turn.of hb5).alloc (.cells #[.int .i64 m, .int .i64 0, .int .i64 0, .bool false, .slice none 0 0, .slice p2 0 c2, .slice q2 0 d2] 49))
  have hbw5 : b < w5.heap.size := (HB4.out.kept hb5).lt
  have hsw5 : w.heap.size + 1 < w5.heap.size := (HS4.out.kept hb5).lt
  obtain ⟨W6, hW6⟩ : ∃ W6, w5.alloc (.cells #[.int .i64 m, .int .i64 0, .int .i64 0, .bool false, .slice none 0 0, .slice p2 0 c2, .slice q2 0 d2] 49) = W6 := ⟨_, rfl⟩
  rw [hW6] at k6 hb6 hS6 hX6
  have HW6 := Lib.hid hW6
  have y4 := k6.cell (i := 4) (v := .slice none 0 0) rfl
  have f4 := k6.free 4
  have k7 := k6.set 4 (.slice (some ⟨ob, 0, none⟩) n oc)
  have hb7 := hb6.other (a := ⟨w5.heap.size, 4, none⟩) (by show b ≠ w5.heap.size; omega) (.slice (some ⟨ob, 0, none⟩) n oc)
  have hS7 := hS6.other (a := ⟨w5.heap.size, 4, none⟩) (by show w.heap.size + 1 ≠ w5.heap.size; omega) (.slice (some ⟨ob, 0, none⟩) n oc)
  have hX7 := hX6.setCell (b := w5.heap.size) (.inr (.inr (by omega))) 4 (.slice (some ⟨ob, 0, none⟩) n oc)
  obtain ⟨W7, hW7⟩ : ∃ W7, W6.setCell ⟨w5.heap.size, 4, none⟩ (.slice (some ⟨ob, 0, none⟩) n oc) = W7 := ⟨_, rfl⟩
  rw [hW7] at k7 hb7 hS7 hX7
  have HW7 := Lib.hid hW7
  have y81 := hb7.cell (i := 81) (v := .int .i64 0) (by rw [← HR.out.2.1]; rfl)
  have f81 := hb7.free 81
  have k8 := k7.other (a := ⟨b, 81, none⟩) (by show w5.heap.size ≠ b; omega) (.int .i64 1)
  have hS8 := hS7.other (a := ⟨b, 81, none⟩) (by show w.heap.size + 1 ≠ b; omega) (.int .i64 1)
  have hX8 := hX7.setCell (b := b) (.inl rfl) 81 (.int .i64 1)
  obtain ⟨W8, hW8⟩ : ∃ W8, W7.setCell ⟨b, 81, none⟩ (.int .i64 1) = W8 := ⟨_, rfl⟩
  rw [hW8] at k8 hS8 hX8
  have HW8 := Lib.hid hW8
  have hr8 : W8.rangeAt w5.heap.size 0 #[.int .i64 m, .int .i64 0, .int .i64 0, .bool false, .slice (some ⟨ob, 0, none⟩) n oc, .slice p2 0 c2, .slice q2 0 d2].toList := block_sub k8 0 7
  have HS8 := Lib.hid hS8
  have HX9 := Lib.hid (hX8.setRow (b := w.heap.size + 1) (.inr (.inr (by omega))) #[.int .i64 m, .int .i64 0, .int .i64 0, .bool false, .slice (some ⟨ob, 0, none⟩) n oc, .slice p2 0 c2, .slice q2 0 d2])
  have HS9 := Lib.hid (hS8.row #[.int .i64 m, .int .i64 0, .int .i64 0, .bool false, .slice (some ⟨ob, 0, none⟩) n oc, .slice p2 0 c2, .slice q2 0 d2])
  clear k6 hb6 hS6 hX6 k7 hb7 hS7 hX7 k8 hS8 hX8 hW6 hW7 hW8 hb5 HB4 HS4 HX4
  go_upto_region 20 with fail
  rw [HW6.out]
  go_upto_region 21 with fail
  rw [HW7.out]
  clear y4 f4
  go_upto_region 22 with fail
  rw [HW8.out]
  clear y81 f81
  go_wp2_with (first
   | ((with_reducible show wpList _ _ _ _ _ _); refine wl_any 49 (.tmp 13) #[.int .i64 m, .int .i64 0, .int .i64 0, .bool false, .slice (some ⟨ob, 0, none⟩) n oc, .slice p2 0 c2, .slice q2 0 d2].toList w5.heap.size 0 _ Tryz.underlying49 rfl shown_info ?_ ?_ ?_ hr8 ?_; rfl; rfl; rfl)
   | ((with_reducible show wpList _ _ _ _ _ _); refine ws_any 49 (.tmp 4) (.tmp 102) #[.int .i64 m, .int .i64 0, .int .i64 0, .bool false, .slice (some ⟨ob, 0, none⟩) n oc, .slice p2 0 c2, .slice q2 0 d2] (w.heap.size + 1) _ 49 ?_ ?_ ?_ ?_ HS8.out shown_info rfl (by simp [Value.oneCell']) ?_; rfl; rfl; rfl; rfl))
  have hx := HX9.out
  exact bodyPost_ret (res_row rfl _ _ (w.heap.size + 1) 49 _ _ rfl HS9.out Tryz.underlying49 rfl shown_info) rfl ⟨_, _, _, _, _, _, rfl, ⟨hx.os, hx.tape, hx.output, hx.size, fun k hk hn => hx.block k hk (by intro h; omega)⟩⟩
end Go.Proofs.YtfnifgppblbjhaaGreatDoor
