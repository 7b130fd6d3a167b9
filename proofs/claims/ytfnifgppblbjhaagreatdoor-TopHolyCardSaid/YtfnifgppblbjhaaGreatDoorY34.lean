/- Part of the proof of TopHoly. -/
import Derived.Test.YtfnifgppblbjhaaGreatDoorY01
import Derived.Test.YtfnifgppblbjhaaGreatDoorY17
import Derived.Test.YtfnifgppblbjhaaGreatDoorY30
import Derived.Test.YtfnifgppblbjhaaGreatDoorY33
import Derived.Handy
namespace Go.Proofs.YtfnifgppblbjhaaGreatDoor
set_option maxHeartbeats 8000000
open Go Go.RowKit
set_option linter.unusedVariables false
set_option linter.unusedSimpArgs false
set_option maxRecDepth 100000 in
theorem tmove_norm (b lb n cap : Nat) (x : Tw) (up : Bool) (ck : Int) (vu : Value) (g : Gr) (w : World) (hT : TwC w b lb n cap x) (h0 : CfgOk x.c) (hg : GrOk g) (p q : Option Addr) (pc qc : Nat) (hha : x.ha = .slice p 0 pc) (hhi : x.hi = .slice q 0 qc) (hmode : x.mode = 0) :
  Calls Tryz.prog 27 #[.pointer (some ⟨b, 0, none⟩), .agg (inA up ck vu), .agg (grA g)] w fun e w' => ∃ ob oc, e = .returned (.slice (some ⟨ob, 0, none⟩) n oc) ∧ BlockIs w' b (twA x) 81 ∧ Turn (fun k => k = lb) w w' := by
 obtain ⟨hb, hli, hlf, hca, hne, ht, hG1, hG2, hL1, hL2⟩ := hT
 obtain ⟨i0, hi0, hz0, hz1, hz2⟩ := info_hid out_info3
 have hI := (BlockIs.new w (inA up ck vu) 54).alloc (.cells (grA g) 91)
 have hG := BlockIs.new (w.alloc (.cells (inA up ck vu) 54)) (grA g) 91
 simp only [World.size_alloc] at hG
 have HB := (((Below.refl w.heap.size w).alloc (by exact Nat.le_refl _) (.cells (inA up ck vu) 54)).alloc (by simp only [World.size_alloc]; omega) (.cells (grA g) 91))
 have hb0 := hb.kept HB
 have c82 := hb0.cell (i := 82) (v := .slice (some ⟨lb, 0, none⟩) n cap) (by rw [← hlf]; rfl)
 have hn8 : n ≤ 8 := by have := h0.ca2; omega
 have hn1 : 1 ≤ n := by have := h0.ca1; omega
 have hlb : lb < w.heap.size := World.block_lt_of_cell? w _ (hli.at' 0 (Nat.le_refl _) (by omega) 0 _ rfl)
 have hltb := hb.lt
 obtain ⟨W, hW⟩ : ∃ W, (w.alloc (.cells (inA up ck vu) 54)).alloc (.cells (grA g) 91) = W := ⟨_, rfl⟩
 rw [hW] at hI hG HB hb0 c82
 have hsW : w.heap.size + 1 + 1 = W.heap.size := by rw [← hW]; simp
 have HW := Lib.hid hW
 have HX := Lib.hid (And.intro hlf (And.intro hha (And.intro hhi hmode)))
 have HI := Lib.hid hI
 have HG := Lib.hid hG
 have Hb := Lib.hid hb0
 have HL := Lib.hid (hli.turn (T := fun k => k = b) (Turn.of HB) hne)
 have H0 := Lib.hid h0
 have HBB := Lib.hid HB
 clear hb hli hlf ht hb0 hI hG hmode hha hhi h0 HB hW
 go_enter Tryz.func27, Tryz.ntmps27
 go_wp2_with fail
 go_step3
 go_upto_region 2 with fail
 rw [HW.out]
 go_wp2_with (at_make; refine wpList_make_full _ rfl (.tmp 21) (.tmp 21) 43 rfl W.heap.size 89 i0 (.agg #[.int .i64 0, .int .i64 0, .int .i64 0, .bool false]) 4 Tryz.underlying43 (hi0 ()) hz0 hz1 .i64 .i64 _ _ n rfl rfl rfl rfl (by rw [hz2]; omega) (by unfold maxLen; omega) (Nat.le_refl _) ?_)
 intro w2 hown hgrow
 have hb2 := below_grown hgrow
 have hou := own_there hown
 have hlt2 := (hown.lt _ rfl).2
 have Hb2 := Lib.hid (Hb.out.kept hb2)
 have HI2 := Lib.hid (HI.out.kept hb2)
 have HG2 := Lib.hid (HG.out.kept hb2)
 have HL2 := Lib.hid (HL.out.turn (T := fun k => k = b) (Turn.of hb2) hne)
 have HB2 := Lib.hid (HBB.out.trans (hb2.mono HBB.out.size))
 have HS2 := Lib.hid (show MoveI w2 lb W.heap.size n 0 w2 from ⟨HL2.out, hou, Turn.refl _ _⟩)
 have y82 := Hb2.out.cell (i := 82) (v := .slice (some ⟨lb, 0, none⟩) n cap) (by rw [← HX.out.1]; rfl)
 obtain ⟨ob, hob⟩ : ∃ ob, W.heap.size = ob := ⟨_, rfl⟩
 rw [hob] at HS2 hlt2
 have hs2 := hb2.size
 rw [hob] at hs2 hsW
 rw [hob]
 clear hown hgrow hb2 hou HI HG Hb HL HBB HW hob c82 HL2
 go_wp2_with fail
 refine wp_label ?_
 go_wp2_with fail
 clear y82
 go_loopw [28] (fun iv wr => ∃ k : Nat, k ≤ n ∧ iv = .int .i64 (k : Int) ∧ Hid (MoveI w2 lb ob n k wr)) (fun iv _ => (n - intOf iv).toNat)
 case atStart => exact ⟨0, by omega, rfl, HS2⟩
 case round =>
  clear HS2
  obtain ⟨k, hk, rfl, HK⟩ := hrel
  by_cases hlt : k < n
  ·have hd0 : decide (k < n) = true := by simpa using hlt
   have hi1 : (k : Int) < (n : Int) := by omega
   have hsr := HK.out.tu.size
   have hbr := HK.out.tu.at Hb2.out (by omega)
   have hir := HK.out.tu.at HI2.out (by omega)
   have HGr := Lib.hid ((HK.out.tu.at HG2.out (by omega)).alloc (.cells #[.int .i64 (k : Int)] 3))
   have HBr := Lib.hid (hbr.alloc (.cells #[.int .i64 (k : Int)] 3))
   have HIr := Lib.hid (hir.alloc (.cells #[.int .i64 (k : Int)] 3))
   have HXr := Lib.hid (BlockIs.new wr #[.int .i64 (k : Int)] 3)
   have HTr := Lib.hid (((Below.refl _ wr).alloc (Nat.le_refl _) (.cells #[.int .i64 (k : Int)] 3)))
   have y82 := HBr.out.cell (i := 82) (v := .slice (some ⟨lb, 0, none⟩) n cap) (by rw [← HX.out.1]; rfl)
   have yi := HXr.out.cell (i := 0) (v := .int .i64 (k : Int)) rfl
   obtain ⟨W3, hW3⟩ : ∃ W3, wr.alloc (.cells #[.int .i64 (k : Int)] 3) = W3 := ⟨_, rfl⟩
   rw [hW3] at HBr HIr HGr HXr HTr y82 yi
   have HW3 := Lib.hid hW3
   have hs3 : wr.heap.size < W3.heap.size := HXr.out.lt
   clear hbr hir hW3
   go_upto_region 7 with fail
   rw [HW3.out]
   go_quiet (fail)
   clear y82 yi
   go_upto_region 8 with fail
   have hT4 := (HK.out.tu.trans (Turn.of HTr.out)).drewN nq
   have HB4 := Lib.hid (HBr.out.drewN nq)
   have HI4 := Lib.hid (HIr.out.drewN nq)
   have HG4 := Lib.hid (HGr.out.drewN nq)
   have HX4 := Lib.hid (HXr.out.drewN nq)
   have hs4 : W3.heap.size = (W3.drewN nq).heap.size := by simp
   have HT4 := Lib.hid hT4
   have HTw := Lib.hid (below_drewN HTr.out nq)
   obtain ⟨W4, hW4⟩ : ∃ W4, W3.drewN nq = W4 := ⟨_, rfl⟩
   rw [hW4] at HB4 HI4 HG4 HX4 HT4 HTw hs4
   rw [hW4]
   clear hT4 hW4 HBr HIr HGr HXr HTr
   go_cut [12] (fun p12 wc => ∃ tb, p12 = .pointer (some ⟨tb, 0, none⟩) ∧ W4.heap.size ≤ tb ∧ BlockIs wc tb tc0 135 ∧ Below W4.heap.size W4 wc)
   case first =>
    have hd := (Below.refl W4.heap.size W4).drew
    have HSS := Lib.hid (show ∀ W', Below W4.heap.size W4 W' → W'.cell? ⟨w.heap.size, 6, none⟩ = some (.int .i64 0) ∧ W'.cell? ⟨w.heap.size, 7, none⟩ = some (.int .i64 0) ∧ W'.cell? ⟨w.heap.size, 8, none⟩ = some (.int .i64 0) ∧ W'.cell? ⟨wr.heap.size, 0, none⟩ = some (.int .i64 (k : Int)) from fun W' hh => ⟨(HI4.out.kept hh).cell rfl, (HI4.out.kept hh).cell rfl, (HI4.out.kept hh).cell rfl, (HX4.out.kept hh).cell rfl⟩)
    refine wp_region_held_drew (S := fun W' => W'.cell? ⟨w.heap.size, 6, none⟩ = some (.int .i64 0) ∧ W'.cell? ⟨w.heap.size, 7, none⟩ = some (.int .i64 0) ∧ W'.cell? ⟨w.heap.size, 8, none⟩ = some (.int .i64 0) ∧ W'.cell? ⟨wr.heap.size, 0, none⟩ = some (.int .i64 (k : Int))) (by kernel_rfl) (HSS.out _ hd) (fun hHeld => ?_)
    have hB := hd
    refine tkH 0 ?_
    try simp only [pt]
    refine tkH 1 ?_
    try simp only [pt]
    refine tkH 2 ?_
    try simp only [pt]
    refine tkH 4 ?_
    try simp only [pt]
    refine tkH 5 ?_
    try simp only [pt]
    refine tkH 6 ?_
    try simp only [pt]
    refine tkH 8 ?_
    try simp only [pt]
    refine tkH 9 ?_
    try simp only [pt]
    refine tkH 10 ?_
    try simp only [pt]
    refine rdy [3, 13] ?_
    refine' arC rfl (fun KK hKK => ?xa3) (arC rfl (fun KK hKK => ?xa13) AllReadyH.nil)
    case xa3 =>
     go_simp
     refine (tbit_ok wr.heap.size k _ (by omega) (HSS.out _ hB).2.2.2).mono ?_; rintro e w13 ⟨rfl, hb⟩
     have hB := hB.trans (hb.mono hB.size)
     clear hb
     refine hKK.out _ _ (HSS.out _ hB) (fun _ => ?_)
     clear hKK KK
     try simp only [pt]
     refine rdy [7, 13] ?_
     refine' arC rfl (fun KK hKK => ?xaq3q7) (arC rfl (fun KK hKK => ?xaq3q13) AllReadyH.nil)
     case xaq3q7 =>
      go_simp
      refine (tbit_ok wr.heap.size k _ (by omega) (HSS.out _ hB).2.2.2).mono ?_; rintro e w17 ⟨rfl, hb⟩
      have hB := hB.trans (hb.mono hB.size)
      clear hb
      refine hKK.out _ _ (HSS.out _ hB) (fun _ => ?_)
      clear hKK KK
      try simp only [pt]
      refine rdy [11, 13] ?_
      refine' arC rfl (fun KK hKK => ?xaq3qq7q11) (arC rfl (fun KK hKK => ?xaq3qq7q13) AllReadyH.nil)
      case xaq3qq7q11 =>
       go_simp
       refine (tbit_ok wr.heap.size k _ (by omega) (HSS.out _ hB).2.2.2).mono ?_; rintro e w21 ⟨rfl, hb⟩
       have hB := hB.trans (hb.mono hB.size)
       clear hb
       refine hKK.out _ _ (HSS.out _ hB) (fun _ => ?_)
       clear hKK KK
       try simp only [pt]
       refine tkH 12 ?_
       try simp only [pt]
       refine rdy [13] ?_
       refine' arC rfl (fun KK hKK => ?xaq3qq7qq11q13) AllReadyH.nil
       case xaq3qq7qq11q13 =>
        go_simp
        have habA := hB.size
        try simp only [World.size_alloc] at habA
        have hB := ba hB (.cells #[.bool false, .bool false, .bool false] 135) (by first | exact Nat.le_refl _ | omega)
        have hA : BlockIs (w21.alloc (.cells #[.bool false, .bool false, .bool false] 135)) (w21.heap.size) #[.bool false, .bool false, .bool false] 135 := by have h := BlockIs.new w21 #[.bool false, .bool false, .bool false] 135; (try simp only [World.size_alloc] at h); exact h
        refine hKK.out _ _ (HSS.out _ hB) (fun _ => ?_)
        clear hKK KK
        try simp only [pt]
        have hF9 := hA.row tc0
        have hB9 := below_setRow hB (b := (w21.heap.size)) habA tc0
        refine rdy [14] ?_
        refine' arC rfl (fun KK hKK => ?aq3qq7qq11qq13qt14) AllReadyH.nil
        refine wp_store_row 135 (.tmp 12) (.tmp 50) rfl _ tc0 rfl rfl 135 _ hA touch_info rfl (by simp [tc0, Value.oneCell']) ?_
        refine hKK.out _ _ (HSS.out _ hB9) (fun _ => ?_)
        clear hKK KK
        try simp only [pt]
        refine wpAnyH_done (by kernel_rfl) ?_ _
        clear hHeld
        go_wp2_with fail
        go_meet
        exact ⟨_, rfl, by omega, hF9, hB9⟩
      case xaq3qq7q13 =>
       go_simp
       have habA := hB.size
       try simp only [World.size_alloc] at habA
       have hB := ba hB (.cells #[.bool false, .bool false, .bool false] 135) (by first | exact Nat.le_refl _ | omega)
       have hA : BlockIs (w17.alloc (.cells #[.bool false, .bool false, .bool false] 135)) (w17.heap.size) #[.bool false, .bool false, .bool false] 135 := by have h := BlockIs.new w17 #[.bool false, .bool false, .bool false] 135; (try simp only [World.size_alloc] at h); exact h
       refine hKK.out _ _ (HSS.out _ hB) (fun _ => ?_)
       clear hKK KK
       try simp only [pt]
       refine rdy [11] ?_
       refine' arC rfl (fun KK hKK => ?xaq3qq7qq13q11) AllReadyH.nil
       case xaq3qq7qq13q11 =>
        go_simp
        refine (tbit_ok wr.heap.size k _ (by omega) (HSS.out _ hB).2.2.2).mono ?_; rintro e w21 ⟨rfl, hb⟩
        have hB := hB.trans (hb.mono hB.size)
        have hA := hA.kept hb
        clear hb
        refine hKK.out _ _ (HSS.out _ hB) (fun _ => ?_)
        clear hKK KK
        try simp only [pt]
        refine tkH 12 ?_
        try simp only [pt]
        have hF9 := hA.row tc0
        have hB9 := below_setRow hB (b := (w17.heap.size)) habA tc0
        refine rdy [14] ?_
        refine' arC rfl (fun KK hKK => ?aq3qq7qq13qq11qt14) AllReadyH.nil
        refine wp_store_row 135 (.tmp 12) (.tmp 50) rfl _ tc0 rfl rfl 135 _ hA touch_info rfl (by simp [tc0, Value.oneCell']) ?_
        refine hKK.out _ _ (HSS.out _ hB9) (fun _ => ?_)
        clear hKK KK
        try simp only [pt]
        refine wpAnyH_done (by kernel_rfl) ?_ _
        clear hHeld
        go_wp2_with fail
        go_meet
        exact ⟨_, rfl, by omega, hF9, hB9⟩
     case xaq3q13 =>
      go_simp
      have habA := hB.size
      try simp only [World.size_alloc] at habA
      have hB := ba hB (.cells #[.bool false, .bool false, .bool false] 135) (by first | exact Nat.le_refl _ | omega)
      have hA : BlockIs (w13.alloc (.cells #[.bool false, .bool false, .bool false] 135)) (w13.heap.size) #[.bool false, .bool false, .bool false] 135 := by have h := BlockIs.new w13 #[.bool false, .bool false, .bool false] 135; (try simp only [World.size_alloc] at h); exact h
      refine hKK.out _ _ (HSS.out _ hB) (fun _ => ?_)
      clear hKK KK
      try simp only [pt]
      refine rdy [7] ?_
      refine' arC rfl (fun KK hKK => ?xaq3qq13q7) AllReadyH.nil
      case xaq3qq13q7 =>
       go_simp
       refine (tbit_ok wr.heap.size k _ (by omega) (HSS.out _ hB).2.2.2).mono ?_; rintro e w17 ⟨rfl, hb⟩
       have hB := hB.trans (hb.mono hB.size)
       have hA := hA.kept hb
       clear hb
       refine hKK.out _ _ (HSS.out _ hB) (fun _ => ?_)
       clear hKK KK
       try simp only [pt]
       refine rdy [11] ?_
       refine' arC rfl (fun KK hKK => ?xaq3qq13qq7q11) AllReadyH.nil
       case xaq3qq13qq7q11 =>
        go_simp
        refine (tbit_ok wr.heap.size k _ (by omega) (HSS.out _ hB).2.2.2).mono ?_; rintro e w21 ⟨rfl, hb⟩
        have hB := hB.trans (hb.mono hB.size)
        have hA := hA.kept hb
        clear hb
        refine hKK.out _ _ (HSS.out _ hB) (fun _ => ?_)
        clear hKK KK
        try simp only [pt]
        refine tkH 12 ?_
        try simp only [pt]
        have hF9 := hA.row tc0
        have hB9 := below_setRow hB (b := (w13.heap.size)) habA tc0
        refine rdy [14] ?_
        refine' arC rfl (fun KK hKK => ?aq3qq13qq7qq11qt14) AllReadyH.nil
        refine wp_store_row 135 (.tmp 12) (.tmp 50) rfl _ tc0 rfl rfl 135 _ hA touch_info rfl (by simp [tc0, Value.oneCell']) ?_
        refine hKK.out _ _ (HSS.out _ hB9) (fun _ => ?_)
        clear hKK KK
        try simp only [pt]
        refine wpAnyH_done (by kernel_rfl) ?_ _
        clear hHeld
        go_wp2_with fail
        go_meet
        exact ⟨_, rfl, by omega, hF9, hB9⟩
    case xa13 =>
     go_simp
     have habA := hB.size
     try simp only [World.size_alloc] at habA
     have hB := ba hB (.cells #[.bool false, .bool false, .bool false] 135) (by first | exact Nat.le_refl _ | omega)
     have hA : BlockIs (W4.drew.alloc (.cells #[.bool false, .bool false, .bool false] 135)) (W4.heap.size) #[.bool false, .bool false, .bool false] 135 := by have h := BlockIs.new W4.drew #[.bool false, .bool false, .bool false] 135; (try simp only [World.size_alloc] at h); exact h
     refine hKK.out _ _ (HSS.out _ hB) (fun _ => ?_)
     clear hKK KK
     try simp only [pt]
     refine rdy [3] ?_
     refine' arC rfl (fun KK hKK => ?xaq13q3) AllReadyH.nil
     case xaq13q3 =>
      go_simp
      refine (tbit_ok wr.heap.size k _ (by omega) (HSS.out _ hB).2.2.2).mono ?_; rintro e w13 ⟨rfl, hb⟩
      have hB := hB.trans (hb.mono hB.size)
      have hA := hA.kept hb
      clear hb
      refine hKK.out _ _ (HSS.out _ hB) (fun _ => ?_)
      clear hKK KK
      try simp only [pt]
      refine rdy [7] ?_
      refine' arC rfl (fun KK hKK => ?xaq13qq3q7) AllReadyH.nil
      case xaq13qq3q7 =>
       go_simp
       refine (tbit_ok wr.heap.size k _ (by omega) (HSS.out _ hB).2.2.2).mono ?_; rintro e w17 ⟨rfl, hb⟩
       have hB := hB.trans (hb.mono hB.size)
       have hA := hA.kept hb
       clear hb
       refine hKK.out _ _ (HSS.out _ hB) (fun _ => ?_)
       clear hKK KK
       try simp only [pt]
       refine rdy [11] ?_
       refine' arC rfl (fun KK hKK => ?xaq13qq3qq7q11) AllReadyH.nil
       case xaq13qq3qq7q11 =>
        go_simp
        refine (tbit_ok wr.heap.size k _ (by omega) (HSS.out _ hB).2.2.2).mono ?_; rintro e w21 ⟨rfl, hb⟩
        have hB := hB.trans (hb.mono hB.size)
        have hA := hA.kept hb
        clear hb
        refine hKK.out _ _ (HSS.out _ hB) (fun _ => ?_)
        clear hKK KK
        try simp only [pt]
        refine tkH 12 ?_
        try simp only [pt]
        have hF9 := hA.row tc0
        have hB9 := below_setRow hB (b := (W4.heap.size)) habA tc0
        refine rdy [14] ?_
        refine' arC rfl (fun KK hKK => ?aq13qq3qq7qq11qt14) AllReadyH.nil
        refine wp_store_row 135 (.tmp 12) (.tmp 50) rfl _ tc0 rfl rfl 135 _ hA touch_info rfl (by simp [tc0, Value.oneCell']) ?_
        refine hKK.out _ _ (HSS.out _ hB9) (fun _ => ?_)
        clear hKK KK
        try simp only [pt]
        refine wpAnyH_done (by kernel_rfl) ?_ _
        clear hHeld
        go_wp2_with fail
        go_meet
        exact ⟨_, rfl, by omega, hF9, hB9⟩
   case rest =>
    obtain ⟨tb, rfl, htb, hT, hB⟩ := hcut
    have hBw := HTw.out.trans (hB.mono (by have := HTw.out.size; omega))
    have hTc := HT4.out.trans (Turn.of hB)
    have Hbc := Lib.hid (HB4.out.kept hB)
    have HXc := Lib.hid (HX4.out.kept hB)
    have HTb := Lib.hid hT
    have HGc := Lib.hid (HG4.out.kept hB)
    have hLc := HK.out.li.turn (T := fun _ => False) (Turn.of hBw) id
    have hOc : ∀ j, j < n → wc.there ob (j * 4) 4 := fun j hj => there_keep (HK.out.ou j hj) hBw
    have hl0 := hLc.at' k (Nat.le_refl _) hlt
    have c80 := Hbc.out.cell (i := 80) (v := .int .i64 0) (by rw [← HX.out.2.2.2]; rfl)
    have y2 : wc.cell? ⟨lb, k * 10 + 2, none⟩ = some (.int .i64 0) := hl0 2 _ rfl
    have yi := HXc.out.cell (i := 0) (v := .int .i64 (k : Int)) rfl
    have yt := HTb.out.cell (i := 2) (v := .bool false) rfl
    have HLc := Lib.hid hLc
    have HOc := Lib.hid hOc
    have HL0 := Lib.hid hl0
    have HTc := Lib.hid hTc
    have hsc := hBw.size
    clear hB hBw hTc hLc hOc hl0 hT HB4 HX4 HT4 HTw HI4 HG4 HW3 HK
    go_upto_region 13 with fail
    go_wp2_with fail
    refine (tnext_ok b lb n cap k x p q pc qc _ Hbc.out H0.out HX.out.1 hca HX.out.2.2.2 HX.out.2.1 HX.out.2.2.1 hlt HL0.out (HLc.out.free k hlt)).mono ?_; rintro e w5 ⟨rfl, hb5⟩
    have Hb5 := Lib.hid (Hbc.out.kept hb5)
    have HX5 := Lib.hid (HXc.out.kept hb5)
    have HG5 := Lib.hid (HGc.out.kept hb5)
    have HTb5 := Lib.hid (HTb.out.kept hb5)
    have HL5 := Lib.hid (HLc.out.turn (T := fun _ => False) (Turn.of hb5) id)
    have HO5 := Lib.hid (show ∀ j, j < n → w5.there ob (j * 4) 4 from fun j hj => there_keep (HOc.out j hj) hb5)
    have HT5 := Lib.hid (HTc.out.trans (Turn.of hb5))
    have HCA := Lib.hid (range_ca (HL5.out.at' k (Nat.le_refl _) hlt))
    have hs5 := hb5.size
    have hltX := HXc.out.lt
    have hltT := HTb.out.lt
    have hltG := HGc.out.lt
    have hltb2 := Hbc.out.lt
    have hd := (Below.refl w5.heap.size w5).drew
    have HSS := Lib.hid (show ∀ W', Turn (fun i => i = lb) w5 W' → W'.rangeAt (w.heap.size + 1) 0 (grA g).toList ∧ W'.cell? ⟨wr.heap.size, 0, none⟩ = some (.int .i64 (k : Int)) ∧ W'.cell? ⟨tb, 1, none⟩ = some (.bool false) ∧ W'.cell? ⟨tb, 2, none⟩ = some (.bool false) from fun W' hh =>
     ⟨block_sub (hh.at HG5.out (by omega)) 0 10, (hh.at HX5.out (by omega)).cell rfl, (hh.at HTb5.out (by omega)).cell rfl, (hh.at HTb5.out (by omega)).cell rfl⟩)
    clear hb5 Hbc HXc HGc HTb HLc HOc HTc HL0 c80 y2 yi yt
    go_upto_region 14 with fail
    refine wp_region_held_drew (S := fun W' => W'.rangeAt (w.heap.size + 1) 0 (grA g).toList ∧ W'.cell? ⟨wr.heap.size, 0, none⟩ = some (.int .i64 (k : Int)) ∧ W'.cell? ⟨tb, 1, none⟩ = some (.bool false) ∧ W'.cell? ⟨tb, 2, none⟩ = some (.bool false)) (by kernel_rfl) (HSS.out _ (Turn.of hd)) (fun hHeld => ?_)
    refine tkH 0 ?_
    try simp only [pt]
    refine tkH 1 ?_
    try simp only [pt]
    refine tkH 2 ?_
    try simp only [pt]
    refine tkH 3 ?_ (hy := by (intro w hSw; refine load_x 91 (.tmp 5) (grA g).toList _ 0 _ Tryz.underlying91 rfl gear_info ?_ ?_ w (hSw.1) <;> rfl))
    try simp only [pt]
    refine tkH 4 ?_
    try simp only [pt]
    refine tkH 5 ?_
    try simp only [pt]
    refine tkH 6 ?_
    try simp only [pt]
    refine tkH 8 ?_
    try simp only [pt]
    refine tkH 9 ?_
    try simp only [pt]
    refine tkH 10 ?_
    try simp only [pt]
    refine tkH 11 ?_
    try simp only [pt]
    refine tkH 12 ?_
    try simp only [pt]
    refine tkH 13 ?_
    try simp only [pt]
    refine rdy [7] ?_
    refine' arC rfl (fun KK hKK => ?b7) AllReadyH.nil
    refine wp_load_mid 85 (.tmp 119) rfl lb (k * 10) rfl ca0 _ HCA.out Tryz.underlying85 rfl car_info ?_
    refine hKK.out _ _ (HSS.out _ (Turn.of hd)) (fun _ => ?_)
    clear hKK KK
    try simp only [pt]
    refine rdy [14] ?_
    refine' arC rfl (fun KK hKK => ?b14) AllReadyH.nil
    go_simp
    refine (carStep_ok g 0 _ hg (.inl rfl)).mono ?_; rintro e w11 ⟨f, d, pp, l, mm, rfl, hb11⟩; have hB11 := hd.trans (hb11.mono hd.size)
    refine hKK.out _ _ (HSS.out _ (Turn.of hB11)) (fun _ => ?_)
    clear hKK KK
    try simp only [pt]
    refine tkH 15 ?_
    try simp only [pt]
    refine tkH 16 ?_
    try simp only [pt]
    refine tkH 17 ?_
    try simp only [pt]
    refine tkH 18 ?_
    try simp only [pt]
    refine tkH 19 ?_
    try simp only [pt]
    refine tkH 20 ?_
    try simp only [pt]
    have hth := Lib.hid (there_keep (HL5.out.free k hlt) hB11)
    have htho := Lib.hid (World.there_setCells (there_keep (HO5.out k hlt) hB11) lb (k * 10) (caA f d pp l).toList)
    have hT29 := Lib.hid (turn_setCells (T := fun i => i = lb) (b := lb) rfl (caA f d pp l).toList (k * 10) _ (Turn.of hB11))
    refine' one_store 21 (o := { dst := none, op := Op.store 85 (Operand.tmp 132) (Operand.tmp 128), type := 0, pos := "super.go:204", after := #[{ on := 20, ground := Ground.data }, { on := 16, ground := Ground.data }, { on := 14, ground := Ground.chain }, { on := 0, ground := Ground.phase }, { on := 1, ground := Ground.textOnly Departure.lateStores }, { on := 2, ground := Ground.textOnly Departure.lateStores }, { on := 3, ground := Ground.phase }, { on := 4, ground := Ground.phase }, { on := 5, ground := Ground.phase }, { on := 6, ground := Ground.phase }, { on := 7, ground := Ground.phase }, { on := 8, ground := Ground.phase }, { on := 9, ground := Ground.phase }, { on := 10, ground := Ground.phase }, { on := 11, ground := Ground.phase }, { on := 12, ground := Ground.phase }, { on := 13, ground := Ground.phase }, { on := 14, ground := Ground.phase }, { on := 15, ground := Ground.phase }, { on := 16, ground := Ground.phase }, { on := 17, ground := Ground.textOnly Departure.lateStores }, { on := 18, ground := Ground.textOnly Departure.lateStores }], guard := none }) rfl (by kernel_rfl) (by kernel_rfl) 85 (.tmp 132) (.tmp 128) rfl lb (k * 10) (caA f d pp l) rfl rfl (wl_sub hth.out (m := 7) (k := 0) (by omega)) car_info (by simp [caA, Value.oneCell']) ?bh29 (fun _ => ?br29)
    case bh29 => exact HSS.out _ hT29.out
    try simp only [pt]
    have hB11' := Lib.hid hB11
    clear hB11 hb11
    have hK31 := Lib.hid (MoveI.step (W := w2) (car := (caA f d pp l).toList) (out := (ouA mm).toList) HL5.out HO5.out HT5.out hB11'.out (by omega) rfl)
    refine tkH 22 ?_
    try simp only [pt]
    have hT31 := Lib.hid (turn_setCells (T := fun i => i = lb ∨ i = ob) (b := ob) (.inr rfl) (ouA mm).toList (k * 4) _ (hT29.out.mono (fun i hi => Or.inl hi)))
    refine' one_store 23 (o := { dst := none, op := Op.store 89 (Operand.tmp 133) (Operand.tmp 129), type := 0, pos := "super.go:204", after := #[{ on := 22, ground := Ground.data }, { on := 17, ground := Ground.data }, { on := 21, ground := Ground.chain }, { on := 0, ground := Ground.phase }, { on := 1, ground := Ground.phase }, { on := 2, ground := Ground.phase }, { on := 3, ground := Ground.phase }, { on := 4, ground := Ground.phase }, { on := 5, ground := Ground.phase }, { on := 6, ground := Ground.phase }, { on := 7, ground := Ground.phase }, { on := 8, ground := Ground.phase }, { on := 9, ground := Ground.phase }, { on := 10, ground := Ground.phase }, { on := 11, ground := Ground.phase }, { on := 12, ground := Ground.phase }, { on := 13, ground := Ground.phase }, { on := 14, ground := Ground.phase }, { on := 15, ground := Ground.phase }, { on := 16, ground := Ground.phase }, { on := 17, ground := Ground.phase }, { on := 18, ground := Ground.textOnly Departure.lateStores }, { on := 19, ground := Ground.phase }, { on := 20, ground := Ground.phase }, { on := 21, ground := Ground.phase }], guard := none }) rfl (by kernel_rfl) (by kernel_rfl) 89 (.tmp 133) (.tmp 129) rfl ob (k * 4) (ouA mm) rfl rfl htho.out out_info (by simp [ouA, Value.oneCell']) ?bh31 (fun _ => ?br31)
    case bh31 => exact ⟨block_sub (hT31.out.at HG5.out (by omega)) 0 10, (hT31.out.at HX5.out (by omega)).cell rfl, (hT31.out.at HTb5.out (by omega)).cell rfl, (hT31.out.at HTb5.out (by omega)).cell rfl⟩
    try simp only [pt]
    refine wpAnyH_done (by kernel_rfl) ?_ _
    clear hHeld hd HSS hB11' hT29 hT31 hth htho HL5 HO5 HT5 HCA HTb5 HX5 Hb5 HG5
    obtain ⟨W31, hW31⟩ : ∃ W31, (w11.setCells lb (k * 10) (caA f d pp l).toList).setCells ob (k * 4) (ouA mm).toList = W31 := ⟨_, rfl⟩
    rw [hW31] at hK31
    rw [hW31]
    clear hW31
    go_wp2_with fail
    go_round
    case rel => exact ⟨k + 1, by omega, by go_num, hK31⟩
    case measure => simp [intOf]; omega
  ·have e : k = n := by omega
   subst e
   have hd0 : decide (k < k) = false := by simp
   have hbr := Lib.hid (HK.out.tu.at Hb2.out (by omega))
   go_wp2_with fail
   rw [Exit.noGoto_ret]
   go_ret
   have hTT := HK.out.tu
   have hBB := HB2.out
   exact ⟨ob, k, rfl, hbr.out, ⟨hTT.os.trans hBB.os, hTT.tape.trans hBB.tape, hTT.output.trans hBB.output, Nat.le_trans hBB.size hTT.size, fun i hi hn => (hTT.block i (by have := hBB.size; omega) (by intro h; rcases h with h | h; exact hn h; omega)).trans (hBB.block i hi)⟩⟩
def spC (l : List Sp) : List Value := l.flatMap fun s => (spA s).toList
theorem spC_len (l : List Sp) : (spC l).length = l.length * 4 := by
 induction l with
 | nil => rfl
 | cons s l ih => unfold spC at ih ⊢; rw [List.flatMap_cons, List.length_append, ih]; simp [spA]; omega
theorem spC_at {l : List Sp} {k : Nat} (h : k < l.length) : ∀ j u, (spA l[k]).toList[j]? = some u → (spC l)[k * 4 + j]? = some u := by
 induction l generalizing k with
 | nil => simp at h
 | cons s l ih =>
  intro j u hu
  have hj : j < 4 := by have := (List.getElem?_eq_some_iff.1 hu).1; simpa [spA] using this
  have e : spC (s :: l) = (spA s).toList ++ spC l := rfl
  cases k with
  | zero => rw [e, List.getElem?_append_left (by simp [spA]; omega)]; simpa using hu
  | succ k =>
   rw [e, List.getElem?_append_right (by simp [spA]; omega), show (k + 1) * 4 + j - (spA s).toList.length = k * 4 + j by simp [spA]; omega]
   exact ih (by simpa using h) j u (by simpa using hu)
def SpRow (w : World) (v : Value) (l : List Sp) : Prop :=
 ∃ p cap, v = .slice p l.length cap ∧ (0 < l.length → ∃ b, p = some ⟨b, 0, none⟩ ∧ l.length ≤ cap ∧ w.rangeAt b 0 (spC l))
theorem SpRow.below {w w' : World} {v : Value} {l : List Sp} (h : SpRow w v l) (hb : Below w.heap.size w w') : SpRow w' v l := by
 obtain ⟨p, cap, e, h⟩ := h
 exact ⟨p, cap, e, fun hl => by obtain ⟨b, e1, e2, hr⟩ := h hl; exact ⟨b, e1, e2, range_keep hr hb⟩⟩
theorem SpRow.own {w : World} {base : Nat} {v : Value} {l : List Sp} (h : w.ownsRow base 264 4 v l.length (spC l)) : SpRow w v l := by
 obtain ⟨hl, ⟨e, h0⟩ | ⟨g, cap, cur, e, hg, hc, hn, hm, hs, ht⟩⟩ := h
 ·exact ⟨none, 0, by rw [e, h0], fun hl => by omega⟩
 ·refine ⟨some ⟨g, 0, none⟩, cap, e, fun _ => ⟨g, rfl, hn, fun j u hu => ?_⟩⟩
  rw [Nat.zero_add]
  refine BlockIs.cell (show BlockIs w g cur 264 from hc) ?_
  rw [← Array.getElem?_toList]
  have hj := (List.getElem?_eq_some_iff.1 hu).1
  rw [hl] at hj
  rw [← ht, List.getElem?_take, if_pos hj] at hu
  exact hu
theorem SpRow.at {w : World} {v : Value} {l : List Sp} (h : SpRow w v l) {k : Nat} (hk : k < l.length) : ∃ b cap, v = .slice (some ⟨b, 0, none⟩) l.length cap ∧ w.cell? ⟨b, k * 4, none⟩ = some (.int .i64 l[k].a) ∧ w.cell? ⟨b, k * 4 + 1, none⟩ = some (.int .i64 l[k].b) ∧ w.cell? ⟨b, k * 4 + 2, none⟩ = some (.int .i64 l[k].m) ∧ w.cell? ⟨b, k * 4 + 3, none⟩ = some (.int .i64 l[k].p) := by
 obtain ⟨p, cap, e, h⟩ := h
 obtain ⟨b, rfl, _, hr⟩ := h (by omega)
 have key := fun j u hu => hr (k * 4 + j) u (spC_at hk j u hu)
 simp only [Nat.zero_add] at key
 exact ⟨b, cap, e, key 0 _ rfl, key 1 _ rfl, key 2 _ rfl, key 3 _ rfl⟩
theorem swithin_ok (s : Sp) (t : Int) (w : World) : Calls Tryz.prog 204 #[.agg (spA s), .int .i64 t] w fun e w' => e = .returned (.bool (inS s t)) ∧ Below w.heap.size w w' := by
 have hS := BlockIs.new w (spA s) 264
 have HB := ((Below.refl w.heap.size w).alloc (by exact Nat.le_refl _) (.cells (spA s) 264))
 have c0 := hS.cell (i := 0) (v := .int .i64 s.a) rfl
 have c1 := hS.cell (i := 1) (v := .int .i64 s.b) rfl
 clear hS
 by_cases h1 : s.a ≤ t
 ·by_cases h2 : t < s.b
  ·go_enter Tryz.func204, Tryz.ntmps204
   go_wp2_with fail
   go_ret
   exact ⟨by simp [inS, h1, h2], HB⟩
  ·go_enter Tryz.func204, Tryz.ntmps204
   go_wp2_with fail
   go_ret
   exact ⟨by simp [inS, h1, h2], HB⟩
 ·go_enter Tryz.func204, Tryz.ntmps204
  go_wp2_with fail
  go_ret
  exact ⟨by simp [inS]; omega, HB⟩
theorem sodd_ok (s : Sp) (w : World) (h : s.a < s.b) : Calls Tryz.prog 237 #[.agg (spA s)] w fun e w' => e = .returned (.bool false) ∧ Below w.heap.size w w' := by
 have hS := BlockIs.new w (spA s) 264
 have HB := ((Below.refl w.heap.size w).alloc (by exact Nat.le_refl _) (.cells (spA s) 264))
 have c0 := hS.cell (i := 0) (v := .int .i64 s.a) rfl
 have c1 := hS.cell (i := 1) (v := .int .i64 s.b) rfl
 clear hS
 go_enter Tryz.func237, Tryz.ntmps237
 go_wp2_with fail
 go_ret
 exact ⟨by simp; omega, HB⟩
theorem sat1_ok (s : Sp) (t : Int) (bt : Nat) (w : World) (h : w.cell? ⟨bt, 0, none⟩ = some (.int .i64 t)) : Calls Tryz.prog 203 #[.agg (spA s), .pointer (some ⟨bt, 0, none⟩)] w fun e w' => e = .returned (.bool (inS s t)) ∧ Below w.heap.size w w' := by
 have hS := BlockIs.new w (spA s) 264
 have HB := ((Below.refl w.heap.size w).alloc (by exact Nat.le_refl _) (.cells (spA s) 264))
 have c0 := hS.cell (i := 0) (v := .int .i64 s.a) rfl
 have c1 := hS.cell (i := 1) (v := .int .i64 s.b) rfl
 have c2 := hS.cell (i := 2) (v := .int .i64 s.m) rfl
 have c3 := hS.cell (i := 3) (v := .int .i64 s.p) rfl
 have ct := (HB.cell (p := ⟨bt, 0, none⟩) (World.block_lt_of_cell? w _ h)).trans h
 clear hS h
 go_enter Tryz.func203, Tryz.ntmps203
 go_wp2_with fail
 refine (swithin_ok s t _).mono ?_; rintro e w1 ⟨rfl, hb1⟩
 have HB1 := Lib.hid (HB.trans (hb1.mono HB.size))
 clear hb1 HB c0 c1 c2 c3 ct
 go_wp2_with fail
 go_ret
 exact ⟨rfl, HB1.out⟩
end Go.Proofs.YtfnifgppblbjhaaGreatDoor
