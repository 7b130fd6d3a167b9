/- Part of the proof of TopHoly. -/
import Derived.Test.YtfnifgppblbjhaaGreatDoorY01
import Derived.Test.YtfnifgppblbjhaaGreatDoorY07
import Derived.Test.YtfnifgppblbjhaaGreatDoorY19
import Derived.Test.YtfnifgppblbjhaaGreatDoorY29
namespace Go.Proofs.YtfnifgppblbjhaaGreatDoor
set_option maxHeartbeats 8000000
open Go Go.RowKit
set_option linter.unusedVariables false
set_option linter.unusedSimpArgs false
set_option maxRecDepth 100000 in
theorem wtimed_ok (c : Cfg) (vs vw : Value) (x : Wn) (D : Int) (is : Bool) (w : World) (ht : Tab w) (hz : zErr c.z = 0) (hs : c.z.s = 0) (h1 : 402 ≤ D) (h2 : D ≤ 3651990) (u1 : 0 ≤ x.mi) (u2 : x.mi ≤ 1439) (l1 : 0 ≤ x.l) (l2 : x.l ≤ 10080) :
  Calls Tryz.prog 325 #[.agg (cfgA c vs vw), .agg (wnA x), .int .i64 D, .bool is] w fun e w' => e = .returned (.tuple #[.int .i64 (D * 1440 + x.mi - c.z.b), .int .i64 (D * 1440 + x.mi - c.z.b + x.l), .bool is]) ∧ Below w.heap.size w w' := by
 have hC := (BlockIs.new w (cfgA c vs vw) 33).alloc (.cells (wnA x) 35)
 have hW := BlockIs.new (w.alloc (.cells (cfgA c vs vw) 33)) (wnA x) 35
 simp only [World.size_alloc] at hW
 have HB := (((Below.refl w.heap.size w).alloc (by exact Nat.le_refl _) (.cells (cfgA c vs vw) 33)).alloc (by simp only [World.size_alloc]; omega) (.cells (wnA x) 35))
 have hzb := zErr_b hz
 have HT := Lib.hid (ht.below HB)
 have HW := Lib.hid hW
 have hr := cfg_zone (cfg_range hC)
 have d5 := hW.cell (i := 5) (v := .int .i64 x.mi) rfl
 clear hC hW ht
 go_enter Tryz.func325, Tryz.ntmps325
 go_wp2_with ((with_reducible show wpList _ _ _ _ _ _); refine load_zone (.tmp 14) c.z w.heap.size 13 rfl rfl rfl (by simpa using hr) ?_)
 refine (wmom_plain c.z D x.mi _ HT.out hz hs h1 h2 u1 u2).mono ?_; rintro e w1 ⟨rfl, hb1⟩
 have d6 := (HW.out.kept hb1).cell (i := 6) (v := .int .i64 x.l) rfl
 have HB1 := Lib.hid (HB.trans (hb1.mono HB.size))
 clear hb1 HB hr HT HW d5
 go_wp2_with fail
 go_quiet (fail)
 go_wp2_with fail
 go_ret3
 exact ⟨rfl, below_drewN HB1.out _⟩
set_option maxRecDepth 100000 in
theorem wweek_ok (c : Cfg) (vs vw : Value) (x : Wn) (D : Int) (is : Bool) (w : World) (ht : Tab w) (hz : zErr c.z = 0) (hs : c.z.s = 0) (h1 : 402 ≤ D) (h2 : D ≤ 3651990) (u1 : 0 ≤ x.mi) (u2 : x.mi ≤ 1439) (l1 : 0 ≤ x.l) (l2 : x.l ≤ 10080)
  (ha : x.a = 65) (hi : is = (decide (D % 7 = 0) || decide (D % 7 = 6))) :
  Calls Tryz.prog 324 #[.agg #[], .agg (cfgA c vs vw), .agg (wnA x), .int .i64 D] w fun e w' => e = .returned (.tuple #[.int .i64 (D * 1440 + x.mi - c.z.b), .int .i64 (D * 1440 + x.mi - c.z.b + x.l), .bool is]) ∧ Below w.heap.size w w' := by
 have hE := ((BlockIs.new w #[] 402).alloc (.cells (cfgA c vs vw) 33)).alloc (.cells (wnA x) 35)
 have hC := (BlockIs.new (w.alloc (.cells #[] 402)) (cfgA c vs vw) 33).alloc (.cells (wnA x) 35)
 simp only [World.size_alloc] at hC
 have hW := BlockIs.new ((w.alloc (.cells #[] 402)).alloc (.cells (cfgA c vs vw) 33)) (wnA x) 35
 simp only [World.size_alloc] at hW
 have HB := ((((Below.refl w.heap.size w).alloc (by exact Nat.le_refl _) (.cells #[] 402)).alloc (by simp only [World.size_alloc]; omega) (.cells (cfgA c vs vw) 33)).alloc (by simp only [World.size_alloc]; omega) (.cells (wnA x) 35))
 have HT := Lib.hid (ht.below HB)
 have d3 := hW.cell (i := 3) (v := .int .i64 65) (by rw [← ha]; rfl)
 have HC := Lib.hid hC
 have HW := Lib.hid hW
 have hm : D % 7 = 0 ∨ D % 7 = 1 ∨ D % 7 = 2 ∨ D % 7 = 3 ∨ D % 7 = 4 ∨ D % 7 = 5 ∨ D % 7 = 6 := by omega
 obtain ⟨W, hWW⟩ : ∃ W, (((w.alloc (.cells #[] 402)).alloc (.cells (cfgA c vs vw) 33)).alloc (.cells (wnA x) 35)) = W := ⟨_, rfl⟩
 rw [hWW] at HT HC HW HB d3
 have HSS := Lib.hid (show ∀ W', Below W.heap.size W W' → W'.rangeAt (w.heap.size + 1) 0 (cfgA c vs vw).toList ∧ W'.rangeAt (w.heap.size + 1 + 1) 0 (wnA x).toList ∧ W'.cell? ⟨w.heap.size + 1 + 1, 3, none⟩ = some (.int .i64 65) from fun W' hh => ⟨blk_rg (HC.out.kept hh), blk_rg (HW.out.kept hh), (HW.out.kept hh).cell (by rw [← ha]; rfl)⟩)
 have HWW := Lib.hid hWW
 clear hE hC hW ht hWW d3
 rcases hm with hm | hm | hm | hm | hm | hm | hm
 ·have HE := Lib.hid hm
  have HI := Lib.hid hi
  clear hm hi
  go_enter Tryz.func324, Tryz.ntmps324
  go_wp2_with fail
  rw [HWW.out]
  have hd := (Below.refl W.heap.size W).drew
  refine wp_region_held_drew (S := fun W' => W'.rangeAt (w.heap.size + 1) 0 (cfgA c vs vw).toList ∧ W'.rangeAt (w.heap.size + 1 + 1) 0 (wnA x).toList ∧ W'.cell? ⟨w.heap.size + 1 + 1, 3, none⟩ = some (.int .i64 65)) (by kernel_rfl) (HSS.out _ hd) (fun hHeld => ?_)
  refine tkH 2 ?_
  try simp only [pt]
  refine tkH 3 ?_
  try simp only [pt]
  refine tkH 4 ?_
  try simp only [pt]
  refine tkH 5 ?_
  try simp only [pt]
  refine tkH 0 ?_ (hy := by (intro w hSw; refine load_x 33 (.tmp 5) (cfgA c vs vw).toList _ 0 _ Tryz.underlying33 rfl cfg_info ?_ ?_ w (hSw.1) <;> rfl))
  try simp only [pt]
  refine tkH 1 ?_ (hy := by (intro w hSw; refine load_x 35 (.tmp 6) (wnA x).toList _ 0 _ Tryz.underlying35 rfl wn_info ?_ ?_ w (hSw.2.1) <;> rfl))
  try simp only [pt]
  refine rdy [6] ?_
  refine' arC rfl (fun KK hKK => ?a6) AllReadyH.nil
  go_simp
  refine (weekday_any D _ (by unfold I64; omega)).mono ?_; rintro e w4 ⟨rfl, rfl⟩; rw [HE.out]
  refine hKK.out _ _ (HSS.out _ hd) (fun _ => ?_)
  clear hKK KK
  try simp only [pt]
  refine tkH 7 ?_
  try simp only [pt]
  refine tkH 8 ?_
  try simp only [pt]
  refine tkH 9 ?_
  try simp only [pt]
  refine rdy [10] ?_
  refine' arC rfl (fun KK hKK => ?a10) AllReadyH.nil
  go_simp
  refine (wtimed_ok c vs vw x D _ _ (HT.out.below hd) hz hs h1 h2 u1 u2 l1 l2).mono ?_; rintro e w5 ⟨rfl, hb5⟩; have hB5 := hd.trans (hb5.mono hd.size)
  refine hKK.out _ _ (HSS.out _ hB5) (fun _ => ?_)
  clear hKK KK
  try simp only [pt]
  refine tkH 11 ?_
  try simp only [pt]
  refine tkH 12 ?_
  try simp only [pt]
  refine tkH 13 ?_
  try simp only [pt]
  refine tkH 14 ?_
  try simp only [pt]
  refine tkH 15 ?_
  try simp only [pt]
  refine tkH 16 ?_
  try simp only [pt]
  refine wpAnyH_done (by kernel_rfl) ?_ _
  have HB5 := Lib.hid (HB.trans (hB5.mono HB.size))
  clear hHeld hd HSS hB5 hb5
  go_wp2_with fail
  go_ret3
  exact ⟨by rw [HI.out, HE.out]; rfl, HB5.out⟩
 ·have HE := Lib.hid hm
  have HI := Lib.hid hi
  clear hm hi
  go_enter Tryz.func324, Tryz.ntmps324
  go_wp2_with fail
  rw [HWW.out]
  have hd := (Below.refl W.heap.size W).drew
  refine wp_region_held_drew (S := fun W' => W'.rangeAt (w.heap.size + 1) 0 (cfgA c vs vw).toList ∧ W'.rangeAt (w.heap.size + 1 + 1) 0 (wnA x).toList ∧ W'.cell? ⟨w.heap.size + 1 + 1, 3, none⟩ = some (.int .i64 65)) (by kernel_rfl) (HSS.out _ hd) (fun hHeld => ?_)
  refine tkH 2 ?_
  try simp only [pt]
  refine tkH 3 ?_
  try simp only [pt]
  refine tkH 4 ?_
  try simp only [pt]
  refine tkH 5 ?_
  try simp only [pt]
  refine tkH 0 ?_ (hy := by (intro w hSw; refine load_x 33 (.tmp 5) (cfgA c vs vw).toList _ 0 _ Tryz.underlying33 rfl cfg_info ?_ ?_ w (hSw.1) <;> rfl))
  try simp only [pt]
  refine tkH 1 ?_ (hy := by (intro w hSw; refine load_x 35 (.tmp 6) (wnA x).toList _ 0 _ Tryz.underlying35 rfl wn_info ?_ ?_ w (hSw.2.1) <;> rfl))
  try simp only [pt]
  refine rdy [6] ?_
  refine' arC rfl (fun KK hKK => ?b6) AllReadyH.nil
  go_simp
  refine (weekday_any D _ (by unfold I64; omega)).mono ?_; rintro e w4 ⟨rfl, rfl⟩; rw [HE.out]
  refine hKK.out _ _ (HSS.out _ hd) (fun _ => ?_)
  clear hKK KK
  try simp only [pt]
  refine tkH 7 ?_
  try simp only [pt]
  refine tkH 8 ?_
  try simp only [pt]
  refine tkH 9 ?_
  try simp only [pt]
  refine rdy [10] ?_
  refine' arC rfl (fun KK hKK => ?b10) AllReadyH.nil
  go_simp
  refine (wtimed_ok c vs vw x D _ _ (HT.out.below hd) hz hs h1 h2 u1 u2 l1 l2).mono ?_; rintro e w5 ⟨rfl, hb5⟩; have hB5 := hd.trans (hb5.mono hd.size)
  refine hKK.out _ _ (HSS.out _ hB5) (fun _ => ?_)
  clear hKK KK
  try simp only [pt]
  refine tkH 11 ?_
  try simp only [pt]
  refine tkH 12 ?_
  try simp only [pt]
  refine tkH 13 ?_
  try simp only [pt]
  refine tkH 14 ?_
  try simp only [pt]
  refine tkH 15 ?_
  try simp only [pt]
  refine tkH 16 ?_
  try simp only [pt]
  refine wpAnyH_done (by kernel_rfl) ?_ _
  have HB5 := Lib.hid (HB.trans (hB5.mono HB.size))
  clear hHeld hd HSS hB5 hb5
  go_wp2_with fail
  go_ret3
  exact ⟨by rw [HI.out, HE.out]; rfl, HB5.out⟩
 ·have HE := Lib.hid hm
  have HI := Lib.hid hi
  clear hm hi
  go_enter Tryz.func324, Tryz.ntmps324
  go_wp2_with fail
  rw [HWW.out]
  have hd := (Below.refl W.heap.size W).drew
  refine wp_region_held_drew (S := fun W' => W'.rangeAt (w.heap.size + 1) 0 (cfgA c vs vw).toList ∧ W'.rangeAt (w.heap.size + 1 + 1) 0 (wnA x).toList ∧ W'.cell? ⟨w.heap.size + 1 + 1, 3, none⟩ = some (.int .i64 65)) (by kernel_rfl) (HSS.out _ hd) (fun hHeld => ?_)
  refine tkH 2 ?_
  try simp only [pt]
  refine tkH 3 ?_
  try simp only [pt]
  refine tkH 4 ?_
  try simp only [pt]
  refine tkH 5 ?_
  try simp only [pt]
  refine tkH 0 ?_ (hy := by (intro w hSw; refine load_x 33 (.tmp 5) (cfgA c vs vw).toList _ 0 _ Tryz.underlying33 rfl cfg_info ?_ ?_ w (hSw.1) <;> rfl))
  try simp only [pt]
  refine tkH 1 ?_ (hy := by (intro w hSw; refine load_x 35 (.tmp 6) (wnA x).toList _ 0 _ Tryz.underlying35 rfl wn_info ?_ ?_ w (hSw.2.1) <;> rfl))
  try simp only [pt]
  refine rdy [6] ?_
  refine' arC rfl (fun KK hKK => ?c6) AllReadyH.nil
  go_simp
  refine (weekday_any D _ (by unfold I64; omega)).mono ?_; rintro e w4 ⟨rfl, rfl⟩; rw [HE.out]
  refine hKK.out _ _ (HSS.out _ hd) (fun _ => ?_)
  clear hKK KK
  try simp only [pt]
  refine tkH 7 ?_
  try simp only [pt]
  refine tkH 8 ?_
  try simp only [pt]
  refine tkH 9 ?_
  try simp only [pt]
  refine rdy [10] ?_
  refine' arC rfl (fun KK hKK => ?c10) AllReadyH.nil
  go_simp
  refine (wtimed_ok c vs vw x D _ _ (HT.out.below hd) hz hs h1 h2 u1 u2 l1 l2).mono ?_; rintro e w5 ⟨rfl, hb5⟩; have hB5 := hd.trans (hb5.mono hd.size)
  refine hKK.out _ _ (HSS.out _ hB5) (fun _ => ?_)
  clear hKK KK
  try simp only [pt]
  refine tkH 11 ?_
  try simp only [pt]
  refine tkH 12 ?_
  try simp only [pt]
  refine tkH 13 ?_
  try simp only [pt]
  refine tkH 14 ?_
  try simp only [pt]
  refine tkH 15 ?_
  try simp only [pt]
  refine tkH 16 ?_
  try simp only [pt]
  refine wpAnyH_done (by kernel_rfl) ?_ _
  have HB5 := Lib.hid (HB.trans (hB5.mono HB.size))
  clear hHeld hd HSS hB5 hb5
  go_wp2_with fail
  go_ret3
  exact ⟨by rw [HI.out, HE.out]; rfl, HB5.out⟩
 ·have HE := Lib.hid hm
  have HI := Lib.hid hi
  clear hm hi
  go_enter Tryz.func324, Tryz.ntmps324
  go_wp2_with fail
  rw [HWW.out]
  have hd := (Below.refl W.heap.size W).drew
  refine wp_region_held_drew (S := fun W' => W'.rangeAt (w.heap.size + 1) 0 (cfgA c vs vw).toList ∧ W'.rangeAt (w.heap.size + 1 + 1) 0 (wnA x).toList ∧ W'.cell? ⟨w.heap.size + 1 + 1, 3, none⟩ = some (.int .i64 65)) (by kernel_rfl) (HSS.out _ hd) (fun hHeld => ?_)
  refine tkH 2 ?_
  try simp only [pt]
  refine tkH 3 ?_
  try simp only [pt]
  refine tkH 4 ?_
  try simp only [pt]
  refine tkH 5 ?_
  try simp only [pt]
  refine tkH 0 ?_ (hy := by (intro w hSw; refine load_x 33 (.tmp 5) (cfgA c vs vw).toList _ 0 _ Tryz.underlying33 rfl cfg_info ?_ ?_ w (hSw.1) <;> rfl))
  try simp only [pt]
  refine tkH 1 ?_ (hy := by (intro w hSw; refine load_x 35 (.tmp 6) (wnA x).toList _ 0 _ Tryz.underlying35 rfl wn_info ?_ ?_ w (hSw.2.1) <;> rfl))
  try simp only [pt]
  refine rdy [6] ?_
  refine' arC rfl (fun KK hKK => ?d6) AllReadyH.nil
  go_simp
  refine (weekday_any D _ (by unfold I64; omega)).mono ?_; rintro e w4 ⟨rfl, rfl⟩; rw [HE.out]
  refine hKK.out _ _ (HSS.out _ hd) (fun _ => ?_)
  clear hKK KK
  try simp only [pt]
  refine tkH 7 ?_
  try simp only [pt]
  refine tkH 8 ?_
  try simp only [pt]
  refine tkH 9 ?_
  try simp only [pt]
  refine rdy [10] ?_
  refine' arC rfl (fun KK hKK => ?d10) AllReadyH.nil
  go_simp
  refine (wtimed_ok c vs vw x D _ _ (HT.out.below hd) hz hs h1 h2 u1 u2 l1 l2).mono ?_; rintro e w5 ⟨rfl, hb5⟩; have hB5 := hd.trans (hb5.mono hd.size)
  refine hKK.out _ _ (HSS.out _ hB5) (fun _ => ?_)
  clear hKK KK
  try simp only [pt]
  refine tkH 11 ?_
  try simp only [pt]
  refine tkH 12 ?_
  try simp only [pt]
  refine tkH 13 ?_
  try simp only [pt]
  refine tkH 14 ?_
  try simp only [pt]
  refine tkH 15 ?_
  try simp only [pt]
  refine tkH 16 ?_
  try simp only [pt]
  refine wpAnyH_done (by kernel_rfl) ?_ _
  have HB5 := Lib.hid (HB.trans (hB5.mono HB.size))
  clear hHeld hd HSS hB5 hb5
  go_wp2_with fail
  go_ret3
  exact ⟨by rw [HI.out, HE.out]; rfl, HB5.out⟩
 ·have HE := Lib.hid hm
  have HI := Lib.hid hi
  clear hm hi
  go_enter Tryz.func324, Tryz.ntmps324
  go_wp2_with fail
  rw [HWW.out]
  have hd := (Below.refl W.heap.size W).drew
  refine wp_region_held_drew (S := fun W' => W'.rangeAt (w.heap.size + 1) 0 (cfgA c vs vw).toList ∧ W'.rangeAt (w.heap.size + 1 + 1) 0 (wnA x).toList ∧ W'.cell? ⟨w.heap.size + 1 + 1, 3, none⟩ = some (.int .i64 65)) (by kernel_rfl) (HSS.out _ hd) (fun hHeld => ?_)
  refine tkH 2 ?_
  try simp only [pt]
  refine tkH 3 ?_
  try simp only [pt]
  refine tkH 4 ?_
  try simp only [pt]
  refine tkH 5 ?_
  try simp only [pt]
  refine tkH 0 ?_ (hy := by (intro w hSw; refine load_x 33 (.tmp 5) (cfgA c vs vw).toList _ 0 _ Tryz.underlying33 rfl cfg_info ?_ ?_ w (hSw.1) <;> rfl))
  try simp only [pt]
  refine tkH 1 ?_ (hy := by (intro w hSw; refine load_x 35 (.tmp 6) (wnA x).toList _ 0 _ Tryz.underlying35 rfl wn_info ?_ ?_ w (hSw.2.1) <;> rfl))
  try simp only [pt]
  refine rdy [6] ?_
  refine' arC rfl (fun KK hKK => ?e6) AllReadyH.nil
  go_simp
  refine (weekday_any D _ (by unfold I64; omega)).mono ?_; rintro e w4 ⟨rfl, rfl⟩; rw [HE.out]
  refine hKK.out _ _ (HSS.out _ hd) (fun _ => ?_)
  clear hKK KK
  try simp only [pt]
  refine tkH 7 ?_
  try simp only [pt]
  refine tkH 8 ?_
  try simp only [pt]
  refine tkH 9 ?_
  try simp only [pt]
  refine rdy [10] ?_
  refine' arC rfl (fun KK hKK => ?e10) AllReadyH.nil
  go_simp
  refine (wtimed_ok c vs vw x D _ _ (HT.out.below hd) hz hs h1 h2 u1 u2 l1 l2).mono ?_; rintro e w5 ⟨rfl, hb5⟩; have hB5 := hd.trans (hb5.mono hd.size)
  refine hKK.out _ _ (HSS.out _ hB5) (fun _ => ?_)
  clear hKK KK
  try simp only [pt]
  refine tkH 11 ?_
  try simp only [pt]
  refine tkH 12 ?_
  try simp only [pt]
  refine tkH 13 ?_
  try simp only [pt]
  refine tkH 14 ?_
  try simp only [pt]
  refine tkH 15 ?_
  try simp only [pt]
  refine tkH 16 ?_
  try simp only [pt]
  refine wpAnyH_done (by kernel_rfl) ?_ _
  have HB5 := Lib.hid (HB.trans (hB5.mono HB.size))
  clear hHeld hd HSS hB5 hb5
  go_wp2_with fail
  go_ret3
  exact ⟨by rw [HI.out, HE.out]; rfl, HB5.out⟩
 ·have HE := Lib.hid hm
  have HI := Lib.hid hi
  clear hm hi
  go_enter Tryz.func324, Tryz.ntmps324
  go_wp2_with fail
  rw [HWW.out]
  have hd := (Below.refl W.heap.size W).drew
  refine wp_region_held_drew (S := fun W' => W'.rangeAt (w.heap.size + 1) 0 (cfgA c vs vw).toList ∧ W'.rangeAt (w.heap.size + 1 + 1) 0 (wnA x).toList ∧ W'.cell? ⟨w.heap.size + 1 + 1, 3, none⟩ = some (.int .i64 65)) (by kernel_rfl) (HSS.out _ hd) (fun hHeld => ?_)
  refine tkH 2 ?_
  try simp only [pt]
  refine tkH 3 ?_
  try simp only [pt]
  refine tkH 4 ?_
  try simp only [pt]
  refine tkH 5 ?_
  try simp only [pt]
  refine tkH 0 ?_ (hy := by (intro w hSw; refine load_x 33 (.tmp 5) (cfgA c vs vw).toList _ 0 _ Tryz.underlying33 rfl cfg_info ?_ ?_ w (hSw.1) <;> rfl))
  try simp only [pt]
  refine tkH 1 ?_ (hy := by (intro w hSw; refine load_x 35 (.tmp 6) (wnA x).toList _ 0 _ Tryz.underlying35 rfl wn_info ?_ ?_ w (hSw.2.1) <;> rfl))
  try simp only [pt]
  refine rdy [6] ?_
  refine' arC rfl (fun KK hKK => ?f6) AllReadyH.nil
  go_simp
  refine (weekday_any D _ (by unfold I64; omega)).mono ?_; rintro e w4 ⟨rfl, rfl⟩; rw [HE.out]
  refine hKK.out _ _ (HSS.out _ hd) (fun _ => ?_)
  clear hKK KK
  try simp only [pt]
  refine tkH 7 ?_
  try simp only [pt]
  refine tkH 8 ?_
  try simp only [pt]
  refine tkH 9 ?_
  try simp only [pt]
  refine rdy [10] ?_
  refine' arC rfl (fun KK hKK => ?f10) AllReadyH.nil
  go_simp
  refine (wtimed_ok c vs vw x D _ _ (HT.out.below hd) hz hs h1 h2 u1 u2 l1 l2).mono ?_; rintro e w5 ⟨rfl, hb5⟩; have hB5 := hd.trans (hb5.mono hd.size)
  refine hKK.out _ _ (HSS.out _ hB5) (fun _ => ?_)
  clear hKK KK
  try simp only [pt]
  refine tkH 11 ?_
  try simp only [pt]
  refine tkH 12 ?_
  try simp only [pt]
  refine tkH 13 ?_
  try simp only [pt]
  refine tkH 14 ?_
  try simp only [pt]
  refine tkH 15 ?_
  try simp only [pt]
  refine tkH 16 ?_
  try simp only [pt]
  refine wpAnyH_done (by kernel_rfl) ?_ _
  have HB5 := Lib.hid (HB.trans (hB5.mono HB.size))
  clear hHeld hd HSS hB5 hb5
  go_wp2_with fail
  go_ret3
  exact ⟨by rw [HI.out, HE.out]; rfl, HB5.out⟩
 ·have HE := Lib.hid hm
  have HI := Lib.hid hi
  clear hm hi
  go_enter Tryz.func324, Tryz.ntmps324
  go_wp2_with fail
  rw [HWW.out]
  have hd := (Below.refl W.heap.size W).drew
  refine wp_region_held_drew (S := fun W' => W'.rangeAt (w.heap.size + 1) 0 (cfgA c vs vw).toList ∧ W'.rangeAt (w.heap.size + 1 + 1) 0 (wnA x).toList ∧ W'.cell? ⟨w.heap.size + 1 + 1, 3, none⟩ = some (.int .i64 65)) (by kernel_rfl) (HSS.out _ hd) (fun hHeld => ?_)
  refine tkH 2 ?_
  try simp only [pt]
  refine tkH 3 ?_
  try simp only [pt]
  refine tkH 4 ?_
  try simp only [pt]
  refine tkH 5 ?_
  try simp only [pt]
  refine tkH 0 ?_ (hy := by (intro w hSw; refine load_x 33 (.tmp 5) (cfgA c vs vw).toList _ 0 _ Tryz.underlying33 rfl cfg_info ?_ ?_ w (hSw.1) <;> rfl))
  try simp only [pt]
  refine tkH 1 ?_ (hy := by (intro w hSw; refine load_x 35 (.tmp 6) (wnA x).toList _ 0 _ Tryz.underlying35 rfl wn_info ?_ ?_ w (hSw.2.1) <;> rfl))
  try simp only [pt]
  refine rdy [6] ?_
  refine' arC rfl (fun KK hKK => ?g6) AllReadyH.nil
  go_simp
  refine (weekday_any D _ (by unfold I64; omega)).mono ?_; rintro e w4 ⟨rfl, rfl⟩; rw [HE.out]
  refine hKK.out _ _ (HSS.out _ hd) (fun _ => ?_)
  clear hKK KK
  try simp only [pt]
  refine tkH 7 ?_
  try simp only [pt]
  refine tkH 8 ?_
  try simp only [pt]
  refine tkH 9 ?_
  try simp only [pt]
  refine rdy [10] ?_
  refine' arC rfl (fun KK hKK => ?g10) AllReadyH.nil
  go_simp
  refine (wtimed_ok c vs vw x D _ _ (HT.out.below hd) hz hs h1 h2 u1 u2 l1 l2).mono ?_; rintro e w5 ⟨rfl, hb5⟩; have hB5 := hd.trans (hb5.mono hd.size)
  refine hKK.out _ _ (HSS.out _ hB5) (fun _ => ?_)
  clear hKK KK
  try simp only [pt]
  refine tkH 11 ?_
  try simp only [pt]
  refine tkH 12 ?_
  try simp only [pt]
  refine tkH 13 ?_
  try simp only [pt]
  refine tkH 14 ?_
  try simp only [pt]
  refine tkH 15 ?_
  try simp only [pt]
  refine tkH 16 ?_
  try simp only [pt]
  refine wpAnyH_done (by kernel_rfl) ?_ _
  have HB5 := Lib.hid (HB.trans (hB5.mono HB.size))
  clear hHeld hd HSS hB5 hb5
  go_wp2_with fail
  go_ret3
  exact ⟨by rw [HI.out, HE.out]; rfl, HB5.out⟩
set_option maxRecDepth 100000 in
theorem wrest_no (c : Cfg) (vs vw : Value) (x : Wn) (D : Int) (w : World) (h1 : 402 ≤ D) (h2 : D ≤ 3651990) (hr : ¬ RestP (D + 1) c.ab) :
  Calls Tryz.prog 331 #[.agg #[], .agg (cfgA c vs vw), .agg (wnA x), .int .i64 D] w fun e w' => e = .returned (.tuple #[.int .i64 0, .int .i64 0, .bool false]) ∧ Below w.heap.size w w' := by
 have hE := ((BlockIs.new w #[] 405).alloc (.cells (cfgA c vs vw) 33)).alloc (.cells (wnA x) 35)
 have hC := (BlockIs.new (w.alloc (.cells #[] 405)) (cfgA c vs vw) 33).alloc (.cells (wnA x) 35)
 simp only [World.size_alloc] at hC
 have hW := BlockIs.new ((w.alloc (.cells #[] 405)).alloc (.cells (cfgA c vs vw) 33)) (wnA x) 35
 simp only [World.size_alloc] at hW
 have HB := ((((Below.refl w.heap.size w).alloc (by exact Nat.le_refl _) (.cells #[] 405)).alloc (by simp only [World.size_alloc]; omega) (.cells (cfgA c vs vw) 33)).alloc (by simp only [World.size_alloc]; omega) (.cells (wnA x) 35))
 have c35 := hC.cell (i := 35) (v := .bool c.ab) rfl
 have HR := Lib.hid hr
 clear hE hC hW hr
 go_enter Tryz.func331, Tryz.ntmps331
 go_wp2_with fail
 refine (fRun_no _ c.ab _ (by unfold I64; omega) HR.out).mono ?_; rintro e w1 ⟨rfl, hb1⟩
 have HB1 := Lib.hid (HB.trans (hb1.mono HB.size))
 clear hb1 HB c35
 go_wp2_with fail
 go_ret3
 exact ⟨rfl, HB1.out⟩
set_option maxRecDepth 100000 in
theorem wrest_in (c : Cfg) (vs vw : Value) (x : Wn) (D a b : Int) (w : World) (h1 : 402 ≤ D) (h2 : D ≤ 3651990) (g1 : a ≤ D + 1) (g2 : D + 1 ≤ b) (g3 : b - a ≤ 2) (hin : ∀ y, a ≤ y → y ≤ b → RestP y c.ab) (ha : ¬ RestP (a - 1) c.ab) (hb : ¬ RestP (b + 1) c.ab) (hr : RestP D c.ab) :
  Calls Tryz.prog 331 #[.agg #[], .agg (cfgA c vs vw), .agg (wnA x), .int .i64 D] w fun e w' => e = .returned (.tuple #[.int .i64 0, .int .i64 0, .bool false]) ∧ Below w.heap.size w w' := by
 have hE := ((BlockIs.new w #[] 405).alloc (.cells (cfgA c vs vw) 33)).alloc (.cells (wnA x) 35)
 have hC := (BlockIs.new (w.alloc (.cells #[] 405)) (cfgA c vs vw) 33).alloc (.cells (wnA x) 35)
 simp only [World.size_alloc] at hC
 have hW := BlockIs.new ((w.alloc (.cells #[] 405)).alloc (.cells (cfgA c vs vw) 33)) (wnA x) 35
 simp only [World.size_alloc] at hW
 have HB := ((((Below.refl w.heap.size w).alloc (by exact Nat.le_refl _) (.cells #[] 405)).alloc (by simp only [World.size_alloc]; omega) (.cells (cfgA c vs vw) 33)).alloc (by simp only [World.size_alloc]; omega) (.cells (wnA x) 35))
 have c35 := hC.cell (i := 35) (v := .bool c.ab) rfl
 have HC := Lib.hid hC
 have HR := Lib.hid hr
 have HX := Lib.hid (show ∀ W, Calls Tryz.prog 332 #[.int .i64 (D + 1), .bool c.ab] W fun e w' => e = .returned (.tuple #[.int .i64 a, .int .i64 b, .int .i64 0]) ∧ Below W.heap.size W w' from fun W => fRun_ok (D + 1) a b c.ab W g1 g2 g3 hin ha hb)
 clear hE hC hW hr hin ha hb
 go_enter Tryz.func331, Tryz.ntmps331
 go_wp2_with fail
 refine (HX.out _).mono ?_; rintro e w1 ⟨rfl, hb1⟩
 have e35 := (HC.out.kept hb1).cell (i := 35) (v := .bool c.ab) rfl
 have HB1 := Lib.hid (HB.trans (hb1.mono HB.size))
 clear hb1 HB c35 HX HC
 go_wp2_with fail
 refine (fRest_yes _ c.ab _ (by unfold I64; omega) HR.out).mono ?_; rintro e w2 ⟨rfl, hb2⟩
 have HB2 := Lib.hid (HB1.out.trans (hb2.mono HB1.out.size))
 clear hb2 HB1 e35
 go_wp2_with fail
 go_ret3
 exact ⟨rfl, HB2.out⟩
set_option maxRecDepth 100000 in
theorem wrest_yes (c : Cfg) (vs vw : Value) (x : Wn) (D b : Int) (w : World) (ht : Tab w) (hz : zErr c.z = 0) (hf : sunErr c.f = 0) (h1 : 402 ≤ D) (h2 : D ≤ 3651990) (g2 : D + 1 ≤ b) (g3 : b ≤ D + 3) (hin : ∀ y, D + 1 ≤ y → y ≤ b → RestP y c.ab) (ha : ¬ RestP D c.ab) (hb : ¬ RestP (b + 1) c.ab) (m1 : 0 ≤ x.mi) (m2 : x.mi ≤ 180) (l1 : 0 ≤ x.l) (l2 : x.l ≤ 180) :
  Calls Tryz.prog 331 #[.agg #[], .agg (cfgA c vs vw), .agg (wnA x), .int .i64 D] w fun e w' => e = .returned (.tuple #[.int .i64 (D * 1440 + sunAt c.f D - c.z.b - x.mi), .int .i64 (b * 1440 + sunAt c.f b - c.z.b + x.l), .bool true]) ∧ Below w.heap.size w w' := by
 have hE := ((BlockIs.new w #[] 405).alloc (.cells (cfgA c vs vw) 33)).alloc (.cells (wnA x) 35)
 have hC := (BlockIs.new (w.alloc (.cells #[] 405)) (cfgA c vs vw) 33).alloc (.cells (wnA x) 35)
 simp only [World.size_alloc] at hC
 have hW := BlockIs.new ((w.alloc (.cells #[] 405)).alloc (.cells (cfgA c vs vw) 33)) (wnA x) 35
 simp only [World.size_alloc] at hW
 have HB := ((((Below.refl w.heap.size w).alloc (by exact Nat.le_refl _) (.cells #[] 405)).alloc (by simp only [World.size_alloc]; omega) (.cells (cfgA c vs vw) 33)).alloc (by simp only [World.size_alloc]; omega) (.cells (wnA x) 35))
 have hzb := zErr_b hz
 obtain ⟨fi, fb, f64⟩ := sun_i64 hf
 have s1 := sunAt_in (n := D) fi (by omega) (by omega)
 have s2 := sunAt_in (n := b) fi (by omega) (by omega)
 have v1 : momV c.z c.f D = (D * 1440 + sunAt c.f D - c.z.b, 0) := by unfold momV; rw [if_neg (by omega), if_neg (by omega), if_neg (by omega)]
 have v2 : momV c.z c.f b = (b * 1440 + sunAt c.f b - c.z.b, 0) := by unfold momV; rw [if_neg (by omega), if_neg (by omega), if_neg (by omega)]
 have M1 := Lib.hid (show ∀ W, Tab W → Calls Tryz.prog 333 #[.agg (zoneA c.z), .agg (sunArr c.f), .int .i64 D] W fun e w' => e = .returned (.tuple #[.int .i64 (D * 1440 + sunAt c.f D - c.z.b), .int .i64 0]) ∧ Below W.heap.size W w' from fun W hW => smoment_any c.z.b c.z.s c.z.m c.z.k c.z.d c.z.t c.z.m' c.z.k' c.z.d' c.z.t' c.f D _ 0 W hW f64 (by unfold I64; omega) v1)
 have M2 := Lib.hid (show ∀ W, Tab W → Calls Tryz.prog 333 #[.agg (zoneA c.z), .agg (sunArr c.f), .int .i64 b] W fun e w' => e = .returned (.tuple #[.int .i64 (b * 1440 + sunAt c.f b - c.z.b), .int .i64 0]) ∧ Below W.heap.size W w' from fun W hW => smoment_any c.z.b c.z.s c.z.m c.z.k c.z.d c.z.t c.z.m' c.z.k' c.z.d' c.z.t' c.f b _ 0 W hW f64 (by unfold I64; omega) v2)
 have HA := Lib.hid ha
 have HX := Lib.hid (show ∀ W, Calls Tryz.prog 332 #[.int .i64 (D + 1), .bool c.ab] W fun e w' => e = .returned (.tuple #[.int .i64 (D + 1), .int .i64 b, .int .i64 0]) ∧ Below W.heap.size W w' from fun W => fRun_ok (D + 1) (D + 1) b c.ab W (by omega) g2 (by omega) hin (by rw [show D + 1 - 1 = D by omega]; exact ha) hb)
 have c35 := hC.cell (i := 35) (v := .bool c.ab) rfl
 have HC := Lib.hid hC
 have HW := Lib.hid hW
 have HT := Lib.hid (ht.below HB)
 clear hE hC hW hin ha hb ht v1 v2 fi fb f64 hz hf
 generalize sunAt c.f D = S1 at *
 generalize sunAt c.f b = S2 at *
 go_enter Tryz.func331, Tryz.ntmps331
 go_wp2_with fail
 refine (HX.out _).mono ?_; rintro e w1 ⟨rfl, hb1⟩
 have e35 := (HC.out.kept hb1).cell (i := 35) (v := .bool c.ab) rfl
 have HC1 := Lib.hid (HC.out.kept hb1)
 have HW1 := Lib.hid (HW.out.kept hb1)
 have HT1 := Lib.hid (HT.out.below hb1)
 have HB1 := Lib.hid (HB.trans (hb1.mono HB.size))
 clear hb1 HB c35 HX HC HW HT
 go_wp2_with fail
 refine (fRest_no _ c.ab _ (by unfold I64; omega) HA.out).mono ?_; rintro e w2 ⟨rfl, hb2⟩
 have HC2 := Lib.hid (HC1.out.kept hb2)
 have HW2 := Lib.hid (HW1.out.kept hb2)
 have HT2 := Lib.hid (HT1.out.below hb2)
 have HB2 := Lib.hid (HB1.out.trans (hb2.mono HB1.out.size))
 have hz2 := cfg_zone (cfg_range HC2.out)
 have hs2 := cfg_sun (cfg_range HC2.out)
 clear hb2 HB1 e35 HC1 HW1 HT1
 go_wp2_with (first
  | ((with_reducible show wpList _ _ _ _ _ _); refine load_zone (.tmp 36) c.z (w.heap.size + 1) 13 rfl rfl rfl (by simpa using hz2) ?_)
  | ((with_reducible show wpList _ _ _ _ _ _); refine load_sun (.tmp 38) c.f (w.heap.size + 1) 23 rfl rfl rfl (by simpa using hs2) ?_))
 refine (M1.out _ HT2.out).mono ?_; rintro e w3 ⟨rfl, hb3⟩
 have HC3 := Lib.hid (HC2.out.kept hb3)
 have HW3 := Lib.hid (HW2.out.kept hb3)
 have HT3 := Lib.hid (HT2.out.below hb3)
 have HB3 := Lib.hid (HB2.out.trans (hb3.mono HB2.out.size))
 have hz3 := cfg_zone (cfg_range HC3.out)
 have hs3 := cfg_sun (cfg_range HC3.out)
 clear hb3 HB2 HC2 HW2 HT2 hz2 hs2
 go_wp2_with (first
  | ((with_reducible show wpList _ _ _ _ _ _); refine load_zone (.tmp 45) c.z (w.heap.size + 1) 13 rfl rfl rfl (by simpa using hz3) ?_)
  | ((with_reducible show wpList _ _ _ _ _ _); refine load_sun (.tmp 47) c.f (w.heap.size + 1) 23 rfl rfl rfl (by simpa using hs3) ?_))
 refine (M2.out _ HT3.out).mono ?_; rintro e w4 ⟨rfl, hb4⟩
 have d5 := (HW3.out.kept hb4).cell (i := 5) (v := .int .i64 x.mi) rfl
 have d6 := (HW3.out.kept hb4).cell (i := 6) (v := .int .i64 x.l) rfl
 have HB4 := Lib.hid (HB3.out.trans (hb4.mono HB3.out.size))
 clear hb4 HB3 HC3 HW3 HT3 hz3 hs3
 go_wp2_with fail
 go_quiet (fail)
 go_wp2_with fail
 go_ret3
 exact ⟨rfl, below_drewN HB4.out _⟩
def spA (s : Sp) : Array Value := #[.int .i64 s.a, .int .i64 s.b, .int .i64 s.m, .int .i64 s.p]
def spO : Option Sp → Array Value
 | none => #[.int .i64 0, .int .i64 0, .int .i64 0, .int .i64 0]
 | some s => spA s
def OpenR (c : Cfg) (vs vw : Value) (D : Int) (o : Option Sp) : Prop :=
 (∀ s, o = some s → s.m = c.w.m ∧ s.p = c.w.p) ∧ ∃ a b, (∀ s, o = some s → s.a = a ∧ s.b = b) ∧ ∀ W, Tab W →
  Calls Tryz.prog 331 #[.agg #[], .agg (cfgA c vs vw), .agg (wnA c.w), .int .i64 D] W fun e w' => e = .returned (.tuple #[.int .i64 a, .int .i64 b, .bool o.isSome]) ∧ Below W.heap.size W w'
def OpenW (c : Cfg) (vs vw : Value) (D : Int) (o : Option Sp) : Prop :=
 (∀ s, o = some s → s.m = c.w.m ∧ s.p = c.w.p) ∧ ∃ a b, (∀ s, o = some s → s.a = a ∧ s.b = b) ∧ ∀ W, Tab W →
  Calls Tryz.prog 324 #[.agg #[], .agg (cfgA c vs vw), .agg (wnA c.w), .int .i64 D] W fun e w' => e = .returned (.tuple #[.int .i64 a, .int .i64 b, .bool o.isSome]) ∧ Below W.heap.size W w'
set_option maxRecDepth 100000 in
theorem wspan_rest (c : Cfg) (vs vw : Value) (D : Int) (o : Option Sp) (w : World) (ht : Tab w) (h : CfgOk c) (hm : CfgM w c vs vw) (hk : c.w.k = 4) (h1 : 402 ≤ D) (h2 : D ≤ 3651990) (ho : OpenR c vs vw D o) :
  Calls Tryz.prog 255 #[.agg (cfgA c vs vw), .agg (wnA c.w), .int .i64 D] w fun e w' => e = .returned (.tuple #[.agg (spO o), .bool o.isSome, .int .i64 0]) ∧ Below w.heap.size w w' := by
 have hC := ((BlockIs.new w (cfgA c vs vw) 33).alloc (.cells (wnA c.w) 35)).alloc (.cells #[.int .i64 0, .int .i64 0, .int .i64 0, .int .i64 0] 264)
 have hW := (BlockIs.new (w.alloc (.cells (cfgA c vs vw) 33)) (wnA c.w) 35).alloc (.cells #[.int .i64 0, .int .i64 0, .int .i64 0, .int .i64 0] 264)
 simp only [World.size_alloc] at hW
 have hR := BlockIs.new ((w.alloc (.cells (cfgA c vs vw) 33)).alloc (.cells (wnA c.w) 35)) #[.int .i64 0, .int .i64 0, .int .i64 0, .int .i64 0] 264
 simp only [World.size_alloc] at hR
 have HB := ((((Below.refl w.heap.size w).alloc (by exact Nat.le_refl _) (.cells (cfgA c vs vw) 33)).alloc (by simp only [World.size_alloc]; omega) (.cells (wnA c.w) 35)).alloc (by simp only [World.size_alloc]; omega) (.cells #[.int .i64 0, .int .i64 0, .int .i64 0, .int .i64 0] 264))
 obtain ⟨ho1, a, b, hab, ho2⟩ := ho
 have HO1 := Lib.hid ho1
 have HAB := Lib.hid hab
 have HO2 := Lib.hid ho2
 have HT := Lib.hid (ht.below HB)
 have HM := Lib.hid (hm.below HB)
 have HC := Lib.hid hC
 have HW := Lib.hid hW
 have HR := Lib.hid hR
 have HH := Lib.hid h
 have HK := Lib.hid hk
 clear hC hW hR ht hm h hk ho1 hab ho2
 go_enter Tryz.func255, Tryz.ntmps255
 go_wp2_with ((with_reducible show wpList _ _ _ _ _ _); refine wl_box (.tmp 3) c vs vw w.heap.size 33 rfl rfl rfl HC.out ?_)
 refine (kCheck_ok c _ _ _ HH.out HM.out).mono ?_; rintro e w1 ⟨rfl, hb1⟩
 have HC1 := Lib.hid (HC.out.kept hb1)
 have HW1 := Lib.hid (HW.out.kept hb1)
 have HR1 := Lib.hid (HR.out.kept hb1)
 have HT1 := Lib.hid (HT.out.below hb1)
 have HB1 := HB.trans (hb1.mono HB.size)
 have hw1 := wn_range HW1.out
 clear HC HW HR HM HT HB hb1
 go_wp2_with ((with_reducible show wpList _ _ _ _ _ _); refine load_wn (.tmp 4) c.w (w.heap.size + 1) 0 rfl rfl rfl hw1 ?_)
 refine (kWindow_ok c.w _ HH.out.w).mono ?_; rintro e w2 ⟨rfl, hb2⟩
 have HC2 := Lib.hid (HC1.out.kept hb2)
 have HW2 := Lib.hid (HW1.out.kept hb2)
 have HR2 := Lib.hid (HR1.out.kept hb2)
 have HT2 := Lib.hid (HT1.out.below hb2)
 have HB2 := HB1.trans (hb2.mono HB1.size)
 clear HC1 HW1 HR1 HT1 HB1 hb2 hw1
 go_wp2_with (go_at_call 268; refine (wreck_ok D _ h1 h2).mono ?_; rintro e w' ⟨rfl, rfl⟩)
 have hd := (Below.refl w2.heap.size w2).drew
 have HSS := Lib.hid (show ∀ W', Below w2.heap.size w2 W' → W'.rangeAt w.heap.size 0 (cfgA c vs vw).toList ∧ W'.rangeAt (w.heap.size + 1) 0 (wnA c.w).toList from fun W' hh => ⟨blk_rg (HC2.out.kept hh), blk_rg (HW2.out.kept hh)⟩)
 refine wp_region_held_drew (S := fun W' => W'.rangeAt w.heap.size 0 (cfgA c vs vw).toList ∧ W'.rangeAt (w.heap.size + 1) 0 (wnA c.w).toList) (by kernel_rfl) (HSS.out _ hd) (fun hHeld => ?_)
 refine tkH 0 ?_ (hy := by (intro w hSw; refine load_x 35 (.tmp 4) (wnA c.w).toList _ 0 _ Tryz.underlying35 rfl wn_info ?_ ?_ w (hSw.2) <;> rfl))
 try simp only [pt]
 refine tkH 2 ?_ (hy := by (intro w hSw; refine load_x 33 (.tmp 3) (cfgA c vs vw).toList _ 0 _ Tryz.underlying33 rfl cfg_info ?_ ?_ w (hSw.1) <;> rfl))
 try simp only [pt]
 refine tkH 3 ?_ (hy := by (intro w hSw; refine load_x 35 (.tmp 4) (wnA c.w).toList _ 0 _ Tryz.underlying35 rfl wn_info ?_ ?_ w (hSw.2) <;> rfl))
 try simp only [pt]
 refine tkH 4 ?_
 try simp only [pt]
 refine rdy [1] ?_
 refine' arC rfl (fun KK hKK => ?a1) AllReadyH.nil
 go_simp
 refine (wof_rest c.w _ HK.out).mono ?_; rintro e w3 ⟨rfl, hb3⟩; have hB3 := hd.trans (hb3.mono hd.size)
 refine hKK.out _ _ (HSS.out _ hB3) (fun _ => ?_)
 clear hKK KK
 try simp only [pt]
 refine rdy [5] ?_
 refine' arC rfl (fun KK hKK => ?a5) AllReadyH.nil
 go_simp; go_upon
 refine (HO2.out _ (HT2.out.below hB3)).mono ?_; rintro e w5 ⟨rfl, hb5⟩; have hB5 := hB3.trans (hb5.mono hB3.size)
 refine hKK.out _ _ (HSS.out _ hB5) (fun _ => ?_)
 clear hKK KK
 try simp only [pt]
 refine tkH 6 ?_
 try simp only [pt]
 refine tkH 7 ?_
 try simp only [pt]
 refine tkH 8 ?_
 try simp only [pt]
 refine tkH 9 ?_
 try simp only [pt]
 refine tkH 10 ?_
 try simp only [pt]
 refine tkH 11 ?_
 try simp only [pt]
 refine tkH 12 ?_
 try simp only [pt]
 refine wpAnyH_done (by kernel_rfl) ?_ _
 have HR5 := Lib.hid (HR2.out.kept hB5)
 have HW5 := Lib.hid (HW2.out.kept hB5)
 have HB5 := Lib.hid (HB2.trans (hB5.mono HB2.size))
 have hlt5 := HR2.out.lt
 clear hHeld hd hb3 hB3 hb5 hB5 HSS HC2 HW2 HR2 HT2 HB2
 cases o with
 | none =>
  have y0 := HR5.out.cell (i := 0) (v := .int .i64 0) rfl
  have y1 := HR5.out.cell (i := 1) (v := .int .i64 0) rfl
  have y2 := HR5.out.cell (i := 2) (v := .int .i64 0) rfl
  have y3 := HR5.out.cell (i := 3) (v := .int .i64 0) rfl
  have z0 := HR5.out.free 0
  have z1 := HR5.out.free 1
  have z2 := HR5.out.free 2
  have z3 := HR5.out.free 3
  rw [show (none : Option Sp).isSome = false from rfl]
  go_wp2_with fail
  have hF := (((HR5.out.set 0 (.int .i64 0)).set 1 (.int .i64 0)).set 2 (.int .i64 0)).set 3 (.int .i64 0)
  have e0 := hF.cell (i := 0) (v := .int .i64 0) rfl
  have e1 := hF.cell (i := 1) (v := .int .i64 0) rfl
  have e2 := hF.cell (i := 2) (v := .int .i64 0) rfl
  have e3 := hF.cell (i := 3) (v := .int .i64 0) rfl
  exact bodyPost_ret (v := .tuple #[.agg #[.int .i64 0, .int .i64 0, .int .i64 0, .int .i64 0], .bool false, .int .i64 0]) (by simp [results, Tryz.results255, go_sem, e0, e1, e2, e3]) rfl ⟨rfl, (((HB5.out.setCell (p := ⟨w.heap.size + 1 + 1, 0, none⟩) (by show w.heap.size ≤ w.heap.size + 1 + 1; omega) _).setCell (p := ⟨w.heap.size + 1 + 1, 1, none⟩) (by show w.heap.size ≤ w.heap.size + 1 + 1; omega) _).setCell (p := ⟨w.heap.size + 1 + 1, 2, none⟩) (by show w.heap.size ≤ w.heap.size + 1 + 1; omega) _).setCell (p := ⟨w.heap.size + 1 + 1, 3, none⟩) (by show w.heap.size ≤ w.heap.size + 1 + 1; omega) _⟩
 | some s =>
  obtain ⟨m1, p1⟩ := HO1.out s rfl
  obtain ⟨a1, b1⟩ := HAB.out s rfl
  have y0 := HR5.out.cell (i := 0) (v := .int .i64 0) rfl
  have y1 := HR5.out.cell (i := 1) (v := .int .i64 0) rfl
  have y2 := HR5.out.cell (i := 2) (v := .int .i64 0) rfl
  have y3 := HR5.out.cell (i := 3) (v := .int .i64 0) rfl
  have z0 := HR5.out.free 0
  have z1 := HR5.out.free 1
  have z2 := HR5.out.free 2
  have z3 := HR5.out.free 3
  have d1 := HW5.out.cell (i := 1) (v := .int .i64 c.w.m) rfl
  have d2 := HW5.out.cell (i := 2) (v := .int .i64 c.w.p) rfl
  rw [show (some s : Option Sp).isSome = true from rfl]
  go_wp2_with fail
  have hF := (((HR5.out.set 0 (.int .i64 a)).set 1 (.int .i64 b)).set 2 (.int .i64 c.w.m)).set 3 (.int .i64 c.w.p)
  have e0 := hF.cell (i := 0) (v := .int .i64 a) rfl
  have e1 := hF.cell (i := 1) (v := .int .i64 b) rfl
  have e2 := hF.cell (i := 2) (v := .int .i64 c.w.m) rfl
  have e3 := hF.cell (i := 3) (v := .int .i64 c.w.p) rfl
  exact bodyPost_ret (v := .tuple #[.agg #[.int .i64 a, .int .i64 b, .int .i64 c.w.m, .int .i64 c.w.p], .bool true, .int .i64 0]) (by simp [results, Tryz.results255, go_sem, e0, e1, e2, e3]) rfl ⟨by simp only [spO, spA, a1, b1, m1, p1, Option.isSome_some], (((HB5.out.setCell (p := ⟨w.heap.size + 1 + 1, 0, none⟩) (by show w.heap.size ≤ w.heap.size + 1 + 1; omega) _).setCell (p := ⟨w.heap.size + 1 + 1, 1, none⟩) (by show w.heap.size ≤ w.heap.size + 1 + 1; omega) _).setCell (p := ⟨w.heap.size + 1 + 1, 2, none⟩) (by show w.heap.size ≤ w.heap.size + 1 + 1; omega) _).setCell (p := ⟨w.heap.size + 1 + 1, 3, none⟩) (by show w.heap.size ≤ w.heap.size + 1 + 1; omega) _⟩
end Go.Proofs.YtfnifgppblbjhaaGreatDoor
