/- Part of the proof of TopHoly. -/
import Derived.Test.YtfnifgppblbjhaaGreatDoorY01
import Derived.Test.YtfnifgppblbjhaaGreatDoorY13
import Derived.Test.YtfnifgppblbjhaaGreatDoorY23
import Derived.Test.YtfnifgppblbjhaaGreatDoorY24
import Derived.Deep.RegionHeld3
namespace Go.Proofs.YtfnifgppblbjhaaGreatDoor
set_option maxHeartbeats 8000000
open Go Go.RowKit
set_option linter.unusedVariables false
set_option linter.unusedSimpArgs false
theorem flash_info : (Tryz.prog.info? 64).map (·.size) = some 2 := by kernel_rfl
theorem own_cap {w : World} {B : Nat} {e : TypeId} {k n : Nat} {p : Option Addr} {c : Nat} {xs : List Value} (h : w.ownsRow B e k (.slice p n c) n xs) : n ≤ c ∧ n ≤ maxLen := by
 rcases h.2 with ⟨h, h2⟩ | ⟨g, cap, cur, e, hb, hg, hnc, hcm, _⟩
 ·cases h; exact ⟨Nat.zero_le _, Nat.zero_le _⟩
 ·cases e; exact ⟨hnc, by omega⟩
theorem rec_len (g k m : Int) (l : List Nat) (hl : l.length ≤ 4096) : 0 < (recB g k m l).length ∧ (recB g k m l).length < 1000000 := by
 have h1 := rowB_len [g, k, m]
 have h2 := putN_len (l.length : Int)
 simp only [List.length_cons, List.length_nil] at h1
 unfold recB sealV
 simp only [List.length_append, List.length_cons, List.length_nil]
 omega
theorem slots_info : (Tryz.prog.info? 256).map (·.size) = some 2 := by kernel_rfl
theorem slot_first (b : Nat) (w : World) : Calls Tryz.prog 143 #[.pointer (some ⟨b, 0, none⟩)] w fun e w' => e = .returned (.pointer (some ⟨b, 0, none⟩)) ∧ w = w' := by
 go_enter Tryz.func143, Tryz.ntmps143
 go_wp2
 go_ret
 exact ⟨rfl, rfl⟩
theorem slot_second (b : Nat) (w : World) : Calls Tryz.prog 142 #[.pointer (some ⟨b, 0, none⟩)] w fun e w' => e = .returned (.pointer (some ⟨b, 1, none⟩)) ∧ w = w' := by
 go_enter Tryz.func142, Tryz.ntmps142
 go_wp2
 go_ret
 exact ⟨rfl, rfl⟩
set_option maxRecDepth 100000 in
theorem fwrite_first (g k m : Int) (l : List Nat) (v : Value) (p q : Option Addr) (c d : Nat) (w : World) (ht : Tab w) (hv : Rd w v l.length (bts l)) (hb : ∀ x ∈ l, x < 256) (hl : l.length ≤ 4096) (hl0 : 0 < l.length) (g1 : 1 ≤ g) (g2 : g ≤ 1099511627776) (hk : I64 k) (m1 : 0 ≤ m) (m2 : m ≤ 5) :
  Calls Tryz.prog 91 #[.agg #[.slice p 0 c, .slice q 0 d], .agg #[.int .i64 g, .int .i64 k, .int .i64 m, v], .int .i64 9223372036854775807] w fun e w' => ∃ v' q' d', e = .returned (.tuple #[.agg #[v', .slice q' 0 d'], .bool true, .int .i64 0]) ∧ w'.ownsRow w.heap.size 5 1 v' (recB g k m l).length (bts (recB g k m l)) ∧ Below w.heap.size w w' := by
 obtain ⟨bv, ov, cv, rfl, hcv, hrv⟩ := hv.some hl0
 have hF := ((BlockIs.new w #[.slice p 0 c, .slice q 0 d] 64).alloc (.cells #[.int .i64 g, .int .i64 k, .int .i64 m, .slice (some ⟨bv, ov, none⟩) l.length cv] 70)).alloc (.cells #[.slice none 0 0, .slice none 0 0] 64)
 have hR := (BlockIs.new (w.alloc (.cells #[.slice p 0 c, .slice q 0 d] 64)) #[.int .i64 g, .int .i64 k, .int .i64 m, .slice (some ⟨bv, ov, none⟩) l.length cv] 70).alloc (.cells #[.slice none 0 0, .slice none 0 0] 64)
 simp only [World.size_alloc] at hR
 have hO := BlockIs.new ((w.alloc (.cells #[.slice p 0 c, .slice q 0 d] 64)).alloc (.cells #[.int .i64 g, .int .i64 k, .int .i64 m, .slice (some ⟨bv, ov, none⟩) l.length cv] 70)) #[.slice none 0 0, .slice none 0 0] 64
 simp only [World.size_alloc] at hO
 have HB := ((((Below.refl w.heap.size w).alloc (by exact Nat.le_refl _) (.cells #[.slice p 0 c, .slice q 0 d] 64)).alloc (by simp only [World.size_alloc]; omega) (.cells #[.int .i64 g, .int .i64 k, .int .i64 m, .slice (some ⟨bv, ov, none⟩) l.length cv] 70)).alloc (by simp only [World.size_alloc]; omega) (.cells #[.slice none 0 0, .slice none 0 0] 64))
 have c0 := hF.cell (i := 0) (v := .slice p 0 c) rfl
 have c1 := hF.cell (i := 1) (v := .slice q 0 d) rfl
 have d0 := hR.cell (i := 0) (v := .int .i64 g) rfl
 have d1 := hR.cell (i := 1) (v := .int .i64 k) rfl
 have d2 := hR.cell (i := 2) (v := .int .i64 m) rfl
 have d3 := hR.cell (i := 3) (v := .slice (some ⟨bv, ov, none⟩) l.length cv) rfl
 have HV := Lib.hid (hv.below HB)
 have HTb := Lib.hid (ht.below HB)
 have HF := Lib.hid hF
 have HR := Lib.hid hR
 have HO := Lib.hid hO
 have HLT := Lib.hid hO.lt
 clear hF hR hO hv ht hrv
 go_enter Tryz.func91, Tryz.ntmps91
 go_wp2_with fail
 refine (fcode_ok g k m _ l _ HTb.out HV.out hb hl hl0 g1 g2 hk m1 m2).mono ?_; rintro e w1 ⟨vb, rfl, hob, hb1⟩
 obtain ⟨pb, cb, rfl⟩ := (own_rd hob).form
 obtain ⟨N, hN⟩ : ∃ N, (recB g k m l).length = N := ⟨_, rfl⟩
 obtain ⟨XS, hXS⟩ : ∃ XS, bts (recB g k m l) = XS := ⟨_, rfl⟩
 rw [hN, hXS] at hob
 have hc1 := own_cap hob
 have i1 : (0 : Int) ≤ (N : Int) := by omega
 have i2 : (N : Int) ≤ 9223372036854775807 := by have := hc1.2; unfold maxLen at this; omega
 have i3 : (N : Int) ≤ (cb : Int) := by have := hc1.1; omega
 have HI7 := Lib.hid (show min (max 9223372036854775807 0) (N : Int) = N by omega)
 have HI4 := Lib.hid (show decide ((N : Int) ≤ 9223372036854775807) = true by simpa using i2)
 clear i2
 have HN := Lib.hid (And.intro hN hXS)
 rw [hN]
 clear hN hXS
 have HB1 := HB.trans (hb1.mono HB.size)
 have HF1 := Lib.hid (HF.out.kept hb1)
 have HR1 := Lib.hid (HR.out.kept hb1)
 have HO1 := Lib.hid (HO.out.kept hb1)
 have HOB := Lib.hid hob
 have HT1 := Lib.hid (HTb.out.below hb1)
 have c0 := HF1.out.cell (i := 0) (v := .slice p 0 c) rfl
 have c1 := HF1.out.cell (i := 1) (v := .slice q 0 d) rfl
 clear hb1 hob d0 d1 d2 d3 HF HR HO HB HV HTb
 go_wp2_with fail
 refine (frec_none p q c d _).mono ?_; rintro e w2 ⟨rfl, hb2⟩
 unfold rc0
 have HB2 := HB1.trans (hb2.mono HB1.size)
 have hF2 := (HF1.out.kept hb2).alloc (.cells #[.int .i64 0, .int .i64 0, .int .i64 0, .slice none 0 0] 70)
 have hR2 := (HR1.out.kept hb2).alloc (.cells #[.int .i64 0, .int .i64 0, .int .i64 0, .slice none 0 0] 70)
 have hO2 := (HO1.out.kept hb2).alloc (.cells #[.int .i64 0, .int .i64 0, .int .i64 0, .slice none 0 0] 70)
 have hL2 := BlockIs.new w2 #[.int .i64 0, .int .i64 0, .int .i64 0, .slice none 0 0] 70
 have HB3 := HB2.alloc HB2.size (.cells #[.int .i64 0, .int .i64 0, .int .i64 0, .slice none 0 0] 70)
 have hob2 := (own_below HOB.out hb2).alloc (.cells #[.int .i64 0, .int .i64 0, .int .i64 0, .slice none 0 0] 70)
 have d0 := hR2.cell (i := 0) (v := .int .i64 g) rfl
 obtain ⟨W, hW⟩ : ∃ W, w2.alloc (.cells #[.int .i64 0, .int .i64 0, .int .i64 0, .slice none 0 0] 70) = W := ⟨_, rfl⟩
 rw [hW] at hF2 hR2 hO2 hL2 HB3 hob2 d0
 have HOB2 := Lib.hid hob2
 have HF2 := Lib.hid hF2
 have HO2 := Lib.hid hO2
 have HW := Lib.hid hW
 have hlt2 : w.heap.size + 1 + 1 < W.heap.size := hO2.lt
 clear hW hob2 hF2 hR2 hO2 hL2 c0 c1 HB1 hb2 HF1 HR1 HO1 HOB HT1 HB2
 go_upto_region 5 with fail
 rw [HW.out]
 go_upto_region 10 with fail
 have hB : Below W.heap.size W W.drew := (Below.refl W.heap.size W).drew
 have HSS := Lib.hid (show ∀ W', Below W.heap.size W W' → W'.cell? ⟨w.heap.size, 0, none⟩ = some (.slice p 0 c) ∧ W'.cell? ⟨w.heap.size, 1, none⟩ = some (.slice q 0 d) from fun W' h => ⟨(HF2.out.kept h).cell rfl, (HF2.out.kept h).cell rfl⟩)
 refine wp_region_held_drew (S := fun W' => W'.cell? ⟨w.heap.size, 0, none⟩ = some (.slice p 0 c) ∧ W'.cell? ⟨w.heap.size, 1, none⟩ = some (.slice q 0 d)) (by kernel_rfl) (HSS.out _ hB) (fun hHeld => ?_)
 refine tkH 0 ?_
 try simp only [pt]
 refine tkH 1 ?_
 try simp only [pt]
 refine tkH 3 ?_
 try simp only [pt]
 refine tkH 4 ?_
 try simp only [pt]
 refine rdy [2, 7] ?_
 refine' arC rfl (fun KK hKK => ?xa2) (arC rfl (fun KK hKK => ?xa7) AllReadyH.nil)
 case xa2 =>
  go_simp
  refine (clone_bytes _ 0 [] _ (Or.inl ⟨rfl, rfl, _, _, rfl⟩) rfl (by omega) (by simp)).mono ?_; rintro e w4 ⟨v4, rfl, ho4, hb⟩; obtain ⟨p4, q4, rfl⟩ := (own_rd ho4).form
  have hB := hB.trans (hb.mono hB.size)
  clear hb
  refine hKK.out _ _ (HSS.out _ hB) (fun _ => ?_)
  clear hKK KK
  try simp only [pt]
  refine rdy [5, 7] ?_
  refine' arC rfl (fun KK hKK => ?xaq2q5) (arC rfl (fun KK hKK => ?xaq2q7) AllReadyH.nil)
  case xaq2q5 =>
   go_simp
   refine (clone_bytes _ 0 [] _ (Or.inl ⟨rfl, rfl, _, _, rfl⟩) rfl (by omega) (by simp)).mono ?_; rintro e w5 ⟨v5, rfl, ho5, hb⟩; obtain ⟨p5, q5, rfl⟩ := (own_rd ho5).form
   have hB := hB.trans (hb.mono hB.size)
   clear hb
   refine hKK.out _ _ (HSS.out _ hB) (fun _ => ?_)
   clear hKK KK
   try simp only [pt]
   refine tkH 6 ?_
   try simp only [pt]
   refine rdy [7] ?_
   refine' arC rfl (fun KK hKK => ?xaq2qq5q7) AllReadyH.nil
   case xaq2qq5q7 =>
    go_simp
    have hab : _ ≤ w5.heap.size := hB.size
    have hB := ba hB (.cells #[.slice none 0 0, .slice none 0 0] 256) (by first | exact Nat.le_refl _ | omega)
    have hA : BlockIs (w5.alloc (.cells #[.slice none 0 0, .slice none 0 0] 256)) w5.heap.size #[.slice none 0 0, .slice none 0 0] 256 := BlockIs.new w5 #[.slice none 0 0, .slice none 0 0] 256
    refine hKK.out _ _ (HSS.out _ hB) (fun _ => ?_)
    clear hKK KK
    try simp only [pt]
    have hF9 := hA.row #[.slice p4 0 q4, .slice p5 0 q5]
    have hB9 := below_setRow hB hab #[.slice p4 0 q4, .slice p5 0 q5]
    refine rdy [8] ?_
    refine' arC rfl (fun KK hKK => ?aq2qq5qq7qt8) AllReadyH.nil
    refine wp_store_row 256 (.tmp 15) (.tmp 53) rfl _ _ rfl rfl 256 _ hA slots_info rfl (by simp [Value.oneCell']) ?_
    refine hKK.out _ _ (HSS.out _ hB9) (fun _ => ?_)
    clear hKK KK
    try simp only [pt]
    refine wpAnyH_done (by kernel_rfl) ?_ _
    have hO9 := HO2.out.kept hB9
    have hob9 := own_below HOB2.out hB9
    obtain ⟨W9, hW9⟩ : ∃ W9, ((w5.alloc (.cells #[.slice none 0 0, .slice none 0 0] 256)).setRow w5.heap.size #[.slice p4 0 q4, .slice p5 0 q5]) = W9 := ⟨_, rfl⟩
    rw [hW9] at hF9 hB9 hO9 hob9 ⊢
    have HB9 := Lib.hid (HB3.trans (hB9.mono HB3.size))
    have HO9 := Lib.hid hO9
    have hlt9 := hF9.lt
    have HLT9 : w.heap.size + 1 + 1 < w5.heap.size := by have := hab; omega
    have HF9 := Lib.hid hF9
    have HK9 := Lib.hid (show ∀ k, (Value.slice pb N cb).ownBlock = some k → w.heap.size + 1 + 1 < k ∧ k < w5.heap.size from fun k hk => by have h1 := HOB2.out.lt k hk; have h2 := hab; simp only [World.size_alloc] at h1; omega)
    have HOB9 := Lib.hid hob9
    clear hW9 hO9 hob9 hB9 hF9 hHeld HSS hA hB hb ho4 ho5 HF2 HO2 HOB2 HW HB3
    go_upto_region 12 with fail
    refine wp_region_held_drew (S := fun W' => True) (by kernel_rfl) trivial (fun hHeld => ?_)
    refine tkH 0 ?_
    try simp only [pt]
    refine tkH 2 ?_
    try simp only [pt]
    refine tkH 3 ?_
    try simp only [pt]
    refine tkH 4 ?_
    try simp only [pt]
    refine tkH 5 ?_
    try simp only [pt]
    refine tkH 6 ?_
    try simp only [pt]
    refine tkH 7 ?_ (hy := by (intro w hSw; go_simp; rw [HI7.out]))
    try simp only [pt]
    refine tkH 8 ?_
    try simp only [pt]
    refine rdy [1] ?_
    refine' arC rfl (fun KK hKK => ?aq2qq5qq7qu1) AllReadyH.nil
    go_simp
    refine (slot_first _ _).mono ?_; rintro e v1 ⟨rfl, rfl⟩
    refine' hKK.out _ _ ?aq2qq5qq7quh1 (fun _ => ?aq2qq5qq7qur1)
    case aq2qq5qq7quh1 => trivial
    clear hKK KK
    try simp only [pt]
    refine tkH 9 ?_
    try simp only [pt]
    have y0 := HF9.out.cell (i := 0) (v := .slice p4 0 q4) rfl
    have y1 := HF9.out.cell (i := 1) (v := .slice p5 0 q5) rfl
    have z0 := HF9.out.free 0
    have z1 := HF9.out.free 1
    refine rdy [10] ?_
    refine' arC rfl (fun KK hKK => ?aq2qq5qq7qu10) AllReadyH.nil
    go_simp
    refine' hKK.out _ _ ?aq2qq5qq7quh10 (fun _ => ?aq2qq5qq7qur10)
    case aq2qq5qq7quh10 => trivial
    clear hKK KK
    try simp only [pt]
    have HOF : ((W9.setCell ⟨w5.heap.size, 0, none⟩ (.slice pb N cb)).drew.setRow (w.heap.size + 1 + 1) #[.slice pb N cb, .slice p5 0 q5]).ownsRow w.heap.size 5 1 (.slice pb N cb) (recB g k m l).length (bts (recB g k m l)) := by
     rw [HN.out.1, HN.out.2]
     exact (((((Turn.refl (fun k => k = w5.heap.size ∨ k = w.heap.size + 1 + 1) W9).setCell (.inl rfl) 0 _).drew.setRow (.inr rfl) _).own HOB9.out (fun k hk => by have := HK9.out k hk; omega))).mono (by simp only [World.size_alloc]; omega)
    replace HOF := Lib.hid HOF
    refine wpAnyH_done (by kernel_rfl) ?_ _
    have HO10 := Lib.hid (HO9.out.other (a := ⟨w5.heap.size, 0, none⟩) (by show w.heap.size + 1 + 1 ≠ w5.heap.size; have := HLT9; omega) (.slice pb N cb))
    have HB10 := Lib.hid (((Turn.refl (fun k => k = w5.heap.size) W9).setCell rfl 0 (.slice pb N cb)).below (B := w.heap.size) (by have := HB9.out.size; omega) (by intro k hk; omega))
    have HR10 := Lib.hid (HO10.out.row #[.slice pb N cb, .slice p5 0 q5])
    have HB11 := Lib.hid (below_setRow (HB9.out.trans HB10.out).drew (by omega : w.heap.size ≤ w.heap.size + 1 + 1) #[.slice pb N cb, .slice p5 0 q5])
    have hY := HF9.out.set 0 (.slice pb N cb)
    have y0 := hY.cell (i := 0) rfl
    have y1 := hY.cell (i := 1) rfl
    clear z0 z1 hY
    go_wp2_with ((with_reducible show wpList _ _ _ _ _ _); refine ws_any 64 (.tmp 6) (.tmp 68) #[.slice pb N cb, .slice p5 0 q5] (w.heap.size + 1 + 1) _ 64 ?_ ?_ ?_ ?_ HO10.out flash_info rfl (by simp [Value.oneCell']) ?_; rfl; rfl; rfl; rfl)
    rw [HI4.out]
    refine bodyPost_ret (v := .tuple #[.agg #[.slice pb N cb, .slice p5 0 q5], .bool true, .int .i64 0]) ?_ rfl ⟨_, _, _, rfl, HOF.out, HB11.out⟩
    refine res_ctt (p := 6) (u := 7) (v := 8) ?_ _ _ (w.heap.size + 1 + 1) 64 #[.slice pb N cb, .slice p5 0 q5] _ ?_ HR10.out Tryz.underlying64 rfl flash_info
    all_goals rfl
  case xaq2q7 =>
   go_simp
   have hab : _ ≤ w4.heap.size := hB.size
   have hB := ba hB (.cells #[.slice none 0 0, .slice none 0 0] 256) (by first | exact Nat.le_refl _ | omega)
   have hA : BlockIs (w4.alloc (.cells #[.slice none 0 0, .slice none 0 0] 256)) w4.heap.size #[.slice none 0 0, .slice none 0 0] 256 := BlockIs.new w4 #[.slice none 0 0, .slice none 0 0] 256
   refine hKK.out _ _ (HSS.out _ hB) (fun _ => ?_)
   clear hKK KK
   try simp only [pt]
   refine rdy [5] ?_
   refine' arC rfl (fun KK hKK => ?xaq2qq7q5) AllReadyH.nil
   case xaq2qq7q5 =>
    go_simp
    refine (clone_bytes _ 0 [] _ (Or.inl ⟨rfl, rfl, _, _, rfl⟩) rfl (by omega) (by simp)).mono ?_; rintro e w5 ⟨v5, rfl, ho5, hb⟩; obtain ⟨p5, q5, rfl⟩ := (own_rd ho5).form
    have hB := hB.trans (hb.mono hB.size)
    have hA := hA.kept hb
    clear hb
    refine hKK.out _ _ (HSS.out _ hB) (fun _ => ?_)
    clear hKK KK
    try simp only [pt]
    refine tkH 6 ?_
    try simp only [pt]
    have hF9 := hA.row #[.slice p4 0 q4, .slice p5 0 q5]
    have hB9 := below_setRow hB hab #[.slice p4 0 q4, .slice p5 0 q5]
    refine rdy [8] ?_
    refine' arC rfl (fun KK hKK => ?aq2qq7qq5qt8) AllReadyH.nil
    refine wp_store_row 256 (.tmp 15) (.tmp 53) rfl _ _ rfl rfl 256 _ hA slots_info rfl (by simp [Value.oneCell']) ?_
    refine hKK.out _ _ (HSS.out _ hB9) (fun _ => ?_)
    clear hKK KK
    try simp only [pt]
    refine wpAnyH_done (by kernel_rfl) ?_ _
    have hO9 := HO2.out.kept hB9
    have hob9 := own_below HOB2.out hB9
    obtain ⟨W9, hW9⟩ : ∃ W9, (w5.setRow w4.heap.size #[.slice p4 0 q4, .slice p5 0 q5]) = W9 := ⟨_, rfl⟩
    rw [hW9] at hF9 hB9 hO9 hob9 ⊢
    have HB9 := Lib.hid (HB3.trans (hB9.mono HB3.size))
    have HO9 := Lib.hid hO9
    have hlt9 := hF9.lt
    have HLT9 : w.heap.size + 1 + 1 < w4.heap.size := by have := hab; omega
    have HF9 := Lib.hid hF9
    have HK9 := Lib.hid (show ∀ k, (Value.slice pb N cb).ownBlock = some k → w.heap.size + 1 + 1 < k ∧ k < w4.heap.size from fun k hk => by have h1 := HOB2.out.lt k hk; have h2 := hab; simp only [World.size_alloc] at h1; omega)
    have HOB9 := Lib.hid hob9
    clear hW9 hO9 hob9 hB9 hF9 hHeld HSS hA hB hb ho4 ho5 HF2 HO2 HOB2 HW HB3
    go_upto_region 12 with fail
    refine wp_region_held_drew (S := fun W' => True) (by kernel_rfl) trivial (fun hHeld => ?_)
    refine tkH 0 ?_
    try simp only [pt]
    refine tkH 2 ?_
    try simp only [pt]
    refine tkH 3 ?_
    try simp only [pt]
    refine tkH 4 ?_
    try simp only [pt]
    refine tkH 5 ?_
    try simp only [pt]
    refine tkH 6 ?_
    try simp only [pt]
    refine tkH 7 ?_ (hy := by (intro w hSw; go_simp; rw [HI7.out]))
    try simp only [pt]
    refine tkH 8 ?_
    try simp only [pt]
    refine rdy [1] ?_
    refine' arC rfl (fun KK hKK => ?aq2qq7qq5qu1) AllReadyH.nil
    go_simp
    refine (slot_first _ _).mono ?_; rintro e v1 ⟨rfl, rfl⟩
    refine' hKK.out _ _ ?aq2qq7qq5quh1 (fun _ => ?aq2qq7qq5qur1)
    case aq2qq7qq5quh1 => trivial
    clear hKK KK
    try simp only [pt]
    refine tkH 9 ?_
    try simp only [pt]
    have y0 := HF9.out.cell (i := 0) (v := .slice p4 0 q4) rfl
    have y1 := HF9.out.cell (i := 1) (v := .slice p5 0 q5) rfl
    have z0 := HF9.out.free 0
    have z1 := HF9.out.free 1
    refine rdy [10] ?_
    refine' arC rfl (fun KK hKK => ?aq2qq7qq5qu10) AllReadyH.nil
    go_simp
    refine' hKK.out _ _ ?aq2qq7qq5quh10 (fun _ => ?aq2qq7qq5qur10)
    case aq2qq7qq5quh10 => trivial
    clear hKK KK
    try simp only [pt]
    have HOF : ((W9.setCell ⟨w4.heap.size, 0, none⟩ (.slice pb N cb)).drew.setRow (w.heap.size + 1 + 1) #[.slice pb N cb, .slice p5 0 q5]).ownsRow w.heap.size 5 1 (.slice pb N cb) (recB g k m l).length (bts (recB g k m l)) := by
     rw [HN.out.1, HN.out.2]
     exact (((((Turn.refl (fun k => k = w4.heap.size ∨ k = w.heap.size + 1 + 1) W9).setCell (.inl rfl) 0 _).drew.setRow (.inr rfl) _).own HOB9.out (fun k hk => by have := HK9.out k hk; omega))).mono (by simp only [World.size_alloc]; omega)
    replace HOF := Lib.hid HOF
    refine wpAnyH_done (by kernel_rfl) ?_ _
    have HO10 := Lib.hid (HO9.out.other (a := ⟨w4.heap.size, 0, none⟩) (by show w.heap.size + 1 + 1 ≠ w4.heap.size; have := HLT9; omega) (.slice pb N cb))
    have HB10 := Lib.hid (((Turn.refl (fun k => k = w4.heap.size) W9).setCell rfl 0 (.slice pb N cb)).below (B := w.heap.size) (by have := HB9.out.size; omega) (by intro k hk; omega))
    have HR10 := Lib.hid (HO10.out.row #[.slice pb N cb, .slice p5 0 q5])
    have HB11 := Lib.hid (below_setRow (HB9.out.trans HB10.out).drew (by omega : w.heap.size ≤ w.heap.size + 1 + 1) #[.slice pb N cb, .slice p5 0 q5])
    have hY := HF9.out.set 0 (.slice pb N cb)
    have y0 := hY.cell (i := 0) rfl
    have y1 := hY.cell (i := 1) rfl
    clear z0 z1 hY
    go_wp2_with ((with_reducible show wpList _ _ _ _ _ _); refine ws_any 64 (.tmp 6) (.tmp 68) #[.slice pb N cb, .slice p5 0 q5] (w.heap.size + 1 + 1) _ 64 ?_ ?_ ?_ ?_ HO10.out flash_info rfl (by simp [Value.oneCell']) ?_; rfl; rfl; rfl; rfl)
    rw [HI4.out]
    refine bodyPost_ret (v := .tuple #[.agg #[.slice pb N cb, .slice p5 0 q5], .bool true, .int .i64 0]) ?_ rfl ⟨_, _, _, rfl, HOF.out, HB11.out⟩
    refine res_ctt (p := 6) (u := 7) (v := 8) ?_ _ _ (w.heap.size + 1 + 1) 64 #[.slice pb N cb, .slice p5 0 q5] _ ?_ HR10.out Tryz.underlying64 rfl flash_info
    all_goals rfl
 case xa7 =>
  go_simp
  have hab : _ ≤ W.heap.size := hB.size
  have hB := ba hB (.cells #[.slice none 0 0, .slice none 0 0] 256) (by first | exact Nat.le_refl _ | omega)
  have hA : BlockIs (W.drew.alloc (.cells #[.slice none 0 0, .slice none 0 0] 256)) W.heap.size #[.slice none 0 0, .slice none 0 0] 256 := BlockIs.new W.drew #[.slice none 0 0, .slice none 0 0] 256
  refine hKK.out _ _ (HSS.out _ hB) (fun _ => ?_)
  clear hKK KK
  try simp only [pt]
  refine rdy [2] ?_
  refine' arC rfl (fun KK hKK => ?xaq7q2) AllReadyH.nil
  case xaq7q2 =>
   go_simp
   refine (clone_bytes _ 0 [] _ (Or.inl ⟨rfl, rfl, _, _, rfl⟩) rfl (by omega) (by simp)).mono ?_; rintro e w4 ⟨v4, rfl, ho4, hb⟩; obtain ⟨p4, q4, rfl⟩ := (own_rd ho4).form
   have hB := hB.trans (hb.mono hB.size)
   have hA := hA.kept hb
   clear hb
   refine hKK.out _ _ (HSS.out _ hB) (fun _ => ?_)
   clear hKK KK
   try simp only [pt]
   refine rdy [5] ?_
   refine' arC rfl (fun KK hKK => ?xaq7qq2q5) AllReadyH.nil
   case xaq7qq2q5 =>
    go_simp
    refine (clone_bytes _ 0 [] _ (Or.inl ⟨rfl, rfl, _, _, rfl⟩) rfl (by omega) (by simp)).mono ?_; rintro e w5 ⟨v5, rfl, ho5, hb⟩; obtain ⟨p5, q5, rfl⟩ := (own_rd ho5).form
    have hB := hB.trans (hb.mono hB.size)
    have hA := hA.kept hb
    clear hb
    refine hKK.out _ _ (HSS.out _ hB) (fun _ => ?_)
    clear hKK KK
    try simp only [pt]
    refine tkH 6 ?_
    try simp only [pt]
    have hF9 := hA.row #[.slice p4 0 q4, .slice p5 0 q5]
    have hB9 := below_setRow hB hab #[.slice p4 0 q4, .slice p5 0 q5]
    refine rdy [8] ?_
    refine' arC rfl (fun KK hKK => ?aq7qq2qq5qt8) AllReadyH.nil
    refine wp_store_row 256 (.tmp 15) (.tmp 53) rfl _ _ rfl rfl 256 _ hA slots_info rfl (by simp [Value.oneCell']) ?_
    refine hKK.out _ _ (HSS.out _ hB9) (fun _ => ?_)
    clear hKK KK
    try simp only [pt]
    refine wpAnyH_done (by kernel_rfl) ?_ _
    have hO9 := HO2.out.kept hB9
    have hob9 := own_below HOB2.out hB9
    obtain ⟨W9, hW9⟩ : ∃ W9, (w5.setRow W.heap.size #[.slice p4 0 q4, .slice p5 0 q5]) = W9 := ⟨_, rfl⟩
    rw [hW9] at hF9 hB9 hO9 hob9 ⊢
    have HB9 := Lib.hid (HB3.trans (hB9.mono HB3.size))
    have HO9 := Lib.hid hO9
    have hlt9 := hF9.lt
    have HLT9 : w.heap.size + 1 + 1 < W.heap.size := by have := hab; omega
    have HF9 := Lib.hid hF9
    have HK9 := Lib.hid (show ∀ k, (Value.slice pb N cb).ownBlock = some k → w.heap.size + 1 + 1 < k ∧ k < W.heap.size from fun k hk => by have h1 := HOB2.out.lt k hk; have h2 := hab; simp only [World.size_alloc] at h1; omega)
    have HOB9 := Lib.hid hob9
    clear hW9 hO9 hob9 hB9 hF9 hHeld HSS hA hB hb ho4 ho5 HF2 HO2 HOB2 HW HB3
    go_upto_region 12 with fail
    refine wp_region_held_drew (S := fun W' => True) (by kernel_rfl) trivial (fun hHeld => ?_)
    refine tkH 0 ?_
    try simp only [pt]
    refine tkH 2 ?_
    try simp only [pt]
    refine tkH 3 ?_
    try simp only [pt]
    refine tkH 4 ?_
    try simp only [pt]
    refine tkH 5 ?_
    try simp only [pt]
    refine tkH 6 ?_
    try simp only [pt]
    refine tkH 7 ?_ (hy := by (intro w hSw; go_simp; rw [HI7.out]))
    try simp only [pt]
    refine tkH 8 ?_
    try simp only [pt]
    refine rdy [1] ?_
    refine' arC rfl (fun KK hKK => ?aq7qq2qq5qu1) AllReadyH.nil
    go_simp
    refine (slot_first _ _).mono ?_; rintro e v1 ⟨rfl, rfl⟩
    refine' hKK.out _ _ ?aq7qq2qq5quh1 (fun _ => ?aq7qq2qq5qur1)
    case aq7qq2qq5quh1 => trivial
    clear hKK KK
    try simp only [pt]
    refine tkH 9 ?_
    try simp only [pt]
    have y0 := HF9.out.cell (i := 0) (v := .slice p4 0 q4) rfl
    have y1 := HF9.out.cell (i := 1) (v := .slice p5 0 q5) rfl
    have z0 := HF9.out.free 0
    have z1 := HF9.out.free 1
    refine rdy [10] ?_
    refine' arC rfl (fun KK hKK => ?aq7qq2qq5qu10) AllReadyH.nil
    go_simp
    refine' hKK.out _ _ ?aq7qq2qq5quh10 (fun _ => ?aq7qq2qq5qur10)
    case aq7qq2qq5quh10 => trivial
    clear hKK KK
    try simp only [pt]
    have HOF : ((W9.setCell ⟨W.heap.size, 0, none⟩ (.slice pb N cb)).drew.setRow (w.heap.size + 1 + 1) #[.slice pb N cb, .slice p5 0 q5]).ownsRow w.heap.size 5 1 (.slice pb N cb) (recB g k m l).length (bts (recB g k m l)) := by
     rw [HN.out.1, HN.out.2]
     exact (((((Turn.refl (fun k => k = W.heap.size ∨ k = w.heap.size + 1 + 1) W9).setCell (.inl rfl) 0 _).drew.setRow (.inr rfl) _).own HOB9.out (fun k hk => by have := HK9.out k hk; omega))).mono (by simp only [World.size_alloc]; omega)
    replace HOF := Lib.hid HOF
    refine wpAnyH_done (by kernel_rfl) ?_ _
    have HO10 := Lib.hid (HO9.out.other (a := ⟨W.heap.size, 0, none⟩) (by show w.heap.size + 1 + 1 ≠ W.heap.size; have := HLT9; omega) (.slice pb N cb))
    have HB10 := Lib.hid (((Turn.refl (fun k => k = W.heap.size) W9).setCell rfl 0 (.slice pb N cb)).below (B := w.heap.size) (by have := HB9.out.size; omega) (by intro k hk; omega))
    have HR10 := Lib.hid (HO10.out.row #[.slice pb N cb, .slice p5 0 q5])
    have HB11 := Lib.hid (below_setRow (HB9.out.trans HB10.out).drew (by omega : w.heap.size ≤ w.heap.size + 1 + 1) #[.slice pb N cb, .slice p5 0 q5])
    have hY := HF9.out.set 0 (.slice pb N cb)
    have y0 := hY.cell (i := 0) rfl
    have y1 := hY.cell (i := 1) rfl
    clear z0 z1 hY
    go_wp2_with ((with_reducible show wpList _ _ _ _ _ _); refine ws_any 64 (.tmp 6) (.tmp 68) #[.slice pb N cb, .slice p5 0 q5] (w.heap.size + 1 + 1) _ 64 ?_ ?_ ?_ ?_ HO10.out flash_info rfl (by simp [Value.oneCell']) ?_; rfl; rfl; rfl; rfl)
    rw [HI4.out]
    refine bodyPost_ret (v := .tuple #[.agg #[.slice pb N cb, .slice p5 0 q5], .bool true, .int .i64 0]) ?_ rfl ⟨_, _, _, rfl, HOF.out, HB11.out⟩
    refine res_ctt (p := 6) (u := 7) (v := 8) ?_ _ _ (w.heap.size + 1 + 1) 64 #[.slice pb N cb, .slice p5 0 q5] _ ?_ HR10.out Tryz.underlying64 rfl flash_info
    all_goals rfl
set_option maxRecDepth 100000 in
theorem fwrite_second (g0 k0 m0 : Int) (l0 : List Nat) (va : Value) (g k m : Int) (l : List Nat) (v : Value) (q : Option Addr) (d : Nat) (w : World) (ht : Tab w) (hva : Rd w va (recB g0 k0 m0 l0).length (bts (recB g0 k0 m0 l0))) (hb0 : ∀ x ∈ l0, x < 256) (hl0' : l0.length ≤ 4096) (hl00 : 0 < l0.length) (g01 : 1 ≤ g0) (g02 : g0 ≤ 1099511627776) (hk0 : I64 k0) (m01 : 0 ≤ m0) (m02 : m0 ≤ 5) (hgg : g0 < g)
  (hv : Rd w v l.length (bts l)) (hb : ∀ x ∈ l, x < 256) (hl : l.length ≤ 4096) (hl0 : 0 < l.length) (g1 : 1 ≤ g) (g2 : g ≤ 1099511627776) (hk : I64 k) (m1 : 0 ≤ m) (m2 : m ≤ 5) :
  Calls Tryz.prog 91 #[.agg #[va, .slice q 0 d], .agg #[.int .i64 g, .int .i64 k, .int .i64 m, v], .int .i64 9223372036854775807] w fun e w' => ∃ v1 v2 : Value, e = .returned (.tuple #[.agg #[v1, v2], .bool true, .int .i64 0]) ∧ v1.oneCell' = true ∧ v2.oneCell' = true ∧ Below w.heap.size w w' := by
 obtain ⟨bv, ov, cv, rfl, hcv, hrv⟩ := hv.some hl0
 obtain ⟨bA, oa, ca, rfl, hca, hra⟩ := hva.some (rec_len g0 k0 m0 l0 hl0').1
 have hF := ((BlockIs.new w #[.slice (some ⟨bA, oa, none⟩) (recB g0 k0 m0 l0).length ca, .slice q 0 d] 64).alloc (.cells #[.int .i64 g, .int .i64 k, .int .i64 m, .slice (some ⟨bv, ov, none⟩) l.length cv] 70)).alloc (.cells #[.slice none 0 0, .slice none 0 0] 64)
 have hR := (BlockIs.new (w.alloc (.cells #[.slice (some ⟨bA, oa, none⟩) (recB g0 k0 m0 l0).length ca, .slice q 0 d] 64)) #[.int .i64 g, .int .i64 k, .int .i64 m, .slice (some ⟨bv, ov, none⟩) l.length cv] 70).alloc (.cells #[.slice none 0 0, .slice none 0 0] 64)
 simp only [World.size_alloc] at hR
 have hO := BlockIs.new ((w.alloc (.cells #[.slice (some ⟨bA, oa, none⟩) (recB g0 k0 m0 l0).length ca, .slice q 0 d] 64)).alloc (.cells #[.int .i64 g, .int .i64 k, .int .i64 m, .slice (some ⟨bv, ov, none⟩) l.length cv] 70)) #[.slice none 0 0, .slice none 0 0] 64
 simp only [World.size_alloc] at hO
 have HB := ((((Below.refl w.heap.size w).alloc (by exact Nat.le_refl _) (.cells #[.slice (some ⟨bA, oa, none⟩) (recB g0 k0 m0 l0).length ca, .slice q 0 d] 64)).alloc (by simp only [World.size_alloc]; omega) (.cells #[.int .i64 g, .int .i64 k, .int .i64 m, .slice (some ⟨bv, ov, none⟩) l.length cv] 70)).alloc (by simp only [World.size_alloc]; omega) (.cells #[.slice none 0 0, .slice none 0 0] 64))
 have c0 := hF.cell (i := 0) (v := .slice (some ⟨bA, oa, none⟩) (recB g0 k0 m0 l0).length ca) rfl
 have c1 := hF.cell (i := 1) (v := .slice q 0 d) rfl
 have d0 := hR.cell (i := 0) (v := .int .i64 g) rfl
 have d1 := hR.cell (i := 1) (v := .int .i64 k) rfl
 have d2 := hR.cell (i := 2) (v := .int .i64 m) rfl
 have d3 := hR.cell (i := 3) (v := .slice (some ⟨bv, ov, none⟩) l.length cv) rfl
 have HV := Lib.hid (hv.below HB)
 have HTb := Lib.hid (ht.below HB)
 have HF := Lib.hid hF
 have HR := Lib.hid hR
 have HO := Lib.hid hO
 have HVA := Lib.hid (hva.below HB)
 clear hva hra
 have HLT := Lib.hid hO.lt
 clear hF hR hO hv ht hrv
 go_enter Tryz.func91, Tryz.ntmps91
 go_wp2_with fail
 refine (fcode_ok g k m _ l _ HTb.out HV.out hb hl hl0 g1 g2 hk m1 m2).mono ?_; rintro e w1 ⟨vb, rfl, hob, hb1⟩
 obtain ⟨pb, cb, rfl⟩ := (own_rd hob).form
 obtain ⟨N, hN⟩ : ∃ N, (recB g k m l).length = N := ⟨_, rfl⟩
 obtain ⟨XS, hXS⟩ : ∃ XS, bts (recB g k m l) = XS := ⟨_, rfl⟩
 rw [hN, hXS] at hob
 have hc1 := own_cap hob
 have i1 : (0 : Int) ≤ (N : Int) := by omega
 have i2 : (N : Int) ≤ 9223372036854775807 := by have := hc1.2; unfold maxLen at this; omega
 have i3 : (N : Int) ≤ (cb : Int) := by have := hc1.1; omega
 have HI7 := Lib.hid (show min (max 9223372036854775807 0) (N : Int) = N by omega)
 have HI4 := Lib.hid (show decide ((N : Int) ≤ 9223372036854775807) = true by simpa using i2)
 clear i2
 have HN := Lib.hid (And.intro hN hXS)
 rw [hN]
 clear hN hXS
 have HB1 := HB.trans (hb1.mono HB.size)
 have HF1 := Lib.hid (HF.out.kept hb1)
 have HR1 := Lib.hid (HR.out.kept hb1)
 have HO1 := Lib.hid (HO.out.kept hb1)
 have HOB := Lib.hid hob
 have HT1 := Lib.hid (HTb.out.below hb1)
 have HVA1 := Lib.hid (HVA.out.below hb1)
 have c0 := HF1.out.cell (i := 0) (v := .slice (some ⟨bA, oa, none⟩) (recB g0 k0 m0 l0).length ca) rfl
 have c1 := HF1.out.cell (i := 1) (v := .slice q 0 d) rfl
 clear hb1 hob d0 d1 d2 d3 HF HR HO HB HV HTb HVA
 go_wp2_with fail
 refine (frec_one g0 k0 m0 l0 _ q d _ HT1.out HVA1.out hb0 hl0' hl00 g01 g02 hk0 m01 m02).mono ?_; rintro e w2 ⟨vl, rfl, hol, hb2⟩
 obtain ⟨pl, cl, rfl⟩ := (own_rd hol).form
 have d1 : decide (g ≤ g0) = false := by simp; omega
 have HB2 := HB1.trans (hb2.mono HB1.size)
 have hF2 := (HF1.out.kept hb2).alloc (.cells #[.int .i64 g0, .int .i64 k0, .int .i64 m0, .slice pl l0.length cl] 70)
 have hR2 := (HR1.out.kept hb2).alloc (.cells #[.int .i64 g0, .int .i64 k0, .int .i64 m0, .slice pl l0.length cl] 70)
 have hO2 := (HO1.out.kept hb2).alloc (.cells #[.int .i64 g0, .int .i64 k0, .int .i64 m0, .slice pl l0.length cl] 70)
 have hL2 := BlockIs.new w2 #[.int .i64 g0, .int .i64 k0, .int .i64 m0, .slice pl l0.length cl] 70
 have HB3 := HB2.alloc HB2.size (.cells #[.int .i64 g0, .int .i64 k0, .int .i64 m0, .slice pl l0.length cl] 70)
 have hob2 := (own_below HOB.out hb2).alloc (.cells #[.int .i64 g0, .int .i64 k0, .int .i64 m0, .slice pl l0.length cl] 70)
 have hva2 := (HVA1.out.below hb2).below ((Below.refl _ w2).alloc (Nat.le_refl _) (.cells #[.int .i64 g0, .int .i64 k0, .int .i64 m0, .slice pl l0.length cl] 70))
 have x0 := hL2.cell (i := 0) (v := .int .i64 g0) rfl
 have d0 := hR2.cell (i := 0) (v := .int .i64 g) rfl
 obtain ⟨W, hW⟩ : ∃ W, w2.alloc (.cells #[.int .i64 g0, .int .i64 k0, .int .i64 m0, .slice pl l0.length cl] 70) = W := ⟨_, rfl⟩
 rw [hW] at hF2 hR2 hO2 hL2 HB3 hob2 d0 hva2 x0
 have HOB2 := Lib.hid hob2
 have HVA2 := Lib.hid hva2
 have HF2 := Lib.hid hF2
 have HO2 := Lib.hid hO2
 have HW := Lib.hid hW
 have hlt2 : w.heap.size + 1 + 1 < W.heap.size := hO2.lt
 clear hW hob2 hF2 hR2 hO2 hL2 c0 c1 HB1 hb2 HF1 HR1 HO1 HOB HT1 HB2 HVA1 hol hva2
 go_upto_region 5 with fail
 rw [HW.out]
 go_upto_region 10 with fail
 have hB : Below W.heap.size W W.drew := (Below.refl W.heap.size W).drew
 have HSS := Lib.hid (show ∀ W', Below W.heap.size W W' → W'.cell? ⟨w.heap.size, 0, none⟩ = some (.slice (some ⟨bA, oa, none⟩) (recB g0 k0 m0 l0).length ca) ∧ W'.cell? ⟨w.heap.size, 1, none⟩ = some (.slice q 0 d) from fun W' h => ⟨(HF2.out.kept h).cell rfl, (HF2.out.kept h).cell rfl⟩)
 refine wp_region_held_drew (S := fun W' => W'.cell? ⟨w.heap.size, 0, none⟩ = some (.slice (some ⟨bA, oa, none⟩) (recB g0 k0 m0 l0).length ca) ∧ W'.cell? ⟨w.heap.size, 1, none⟩ = some (.slice q 0 d)) (by kernel_rfl) (HSS.out _ hB) (fun hHeld => ?_)
 refine tkH 0 ?_
 try simp only [pt]
 refine tkH 1 ?_
 try simp only [pt]
 refine tkH 3 ?_
 try simp only [pt]
 refine tkH 4 ?_
 try simp only [pt]
 refine rdy [2, 7] ?_
 refine' arC rfl (fun KK hKK => ?xa2) (arC rfl (fun KK hKK => ?xa7) AllReadyH.nil)
 case xa2 =>
  go_simp
  refine (clone_bytes _ _ _ _ (HVA2.out.below hB) (by simp [bts]) (rec_len g0 k0 m0 l0 hl0').2 (bts_one _)).mono ?_; rintro e w4 ⟨v4, rfl, ho4, hb⟩; obtain ⟨p4, q4, rfl⟩ := (own_rd ho4).form
  have hB := hB.trans (hb.mono hB.size)
  clear hb
  refine hKK.out _ _ (HSS.out _ hB) (fun _ => ?_)
  clear hKK KK
  try simp only [pt]
  refine rdy [5, 7] ?_
  refine' arC rfl (fun KK hKK => ?xaq2q5) (arC rfl (fun KK hKK => ?xaq2q7) AllReadyH.nil)
  case xaq2q5 =>
   go_simp
   refine (clone_bytes _ 0 [] _ (Or.inl ⟨rfl, rfl, _, _, rfl⟩) rfl (by omega) (by simp)).mono ?_; rintro e w5 ⟨v5, rfl, ho5, hb⟩; obtain ⟨p5, q5, rfl⟩ := (own_rd ho5).form
   have hB := hB.trans (hb.mono hB.size)
   clear hb
   refine hKK.out _ _ (HSS.out _ hB) (fun _ => ?_)
   clear hKK KK
   try simp only [pt]
   refine tkH 6 ?_
   try simp only [pt]
   refine rdy [7] ?_
   refine' arC rfl (fun KK hKK => ?xaq2qq5q7) AllReadyH.nil
   case xaq2qq5q7 =>
    go_simp
    have hab : _ ≤ w5.heap.size := hB.size
    have hB := ba hB (.cells #[.slice none 0 0, .slice none 0 0] 256) (by first | exact Nat.le_refl _ | omega)
    have hA : BlockIs (w5.alloc (.cells #[.slice none 0 0, .slice none 0 0] 256)) w5.heap.size #[.slice none 0 0, .slice none 0 0] 256 := BlockIs.new w5 #[.slice none 0 0, .slice none 0 0] 256
    refine hKK.out _ _ (HSS.out _ hB) (fun _ => ?_)
    clear hKK KK
    try simp only [pt]
    have hF9 := hA.row #[.slice p4 (recB g0 k0 m0 l0).length q4, .slice p5 0 q5]
    have hB9 := below_setRow hB hab #[.slice p4 (recB g0 k0 m0 l0).length q4, .slice p5 0 q5]
    refine rdy [8] ?_
    refine' arC rfl (fun KK hKK => ?aq2qq5qq7qt8) AllReadyH.nil
    refine wp_store_row 256 (.tmp 15) (.tmp 53) rfl _ _ rfl rfl 256 _ hA slots_info rfl (by simp [Value.oneCell']) ?_
    refine hKK.out _ _ (HSS.out _ hB9) (fun _ => ?_)
    clear hKK KK
    try simp only [pt]
    refine wpAnyH_done (by kernel_rfl) ?_ _
    have hO9 := HO2.out.kept hB9
    have hob9 := own_below HOB2.out hB9
    obtain ⟨W9, hW9⟩ : ∃ W9, ((w5.alloc (.cells #[.slice none 0 0, .slice none 0 0] 256)).setRow w5.heap.size #[.slice p4 (recB g0 k0 m0 l0).length q4, .slice p5 0 q5]) = W9 := ⟨_, rfl⟩
    rw [hW9] at hF9 hB9 hO9 hob9 ⊢
    have HB9 := Lib.hid (HB3.trans (hB9.mono HB3.size))
    have HO9 := Lib.hid hO9
    have hlt9 := hF9.lt
    have HLT9 : w.heap.size + 1 + 1 < w5.heap.size := by have := hab; omega
    have HF9 := Lib.hid hF9
    have HK9 := Lib.hid (show ∀ k, (Value.slice pb N cb).ownBlock = some k → w.heap.size + 1 + 1 < k ∧ k < w5.heap.size from fun k hk => by have h1 := HOB2.out.lt k hk; have h2 := hab; simp only [World.size_alloc] at h1; omega)
    have HOB9 := Lib.hid hob9
    clear hW9 hO9 hob9 hB9 hF9 hHeld HSS hA hB hb ho4 ho5 HF2 HO2 HOB2 HW HB3
    go_upto_region 12 with fail
    refine wp_region_held_drew (S := fun W' => True) (by kernel_rfl) trivial (fun hHeld => ?_)
    refine tkH 0 ?_
    try simp only [pt]
    refine tkH 2 ?_
    try simp only [pt]
    refine tkH 3 ?_
    try simp only [pt]
    refine tkH 4 ?_
    try simp only [pt]
    refine tkH 5 ?_
    try simp only [pt]
    refine tkH 6 ?_
    try simp only [pt]
    refine tkH 7 ?_ (hy := by (intro w hSw; go_simp; rw [HI7.out]))
    try simp only [pt]
    refine tkH 8 ?_
    try simp only [pt]
    refine rdy [1] ?_
    refine' arC rfl (fun KK hKK => ?aq2qq5qq7qu1) AllReadyH.nil
    go_simp
    refine (slot_second _ _).mono ?_; rintro e v1 ⟨rfl, rfl⟩
    refine' hKK.out _ _ ?aq2qq5qq7quh1 (fun _ => ?aq2qq5qq7qur1)
    case aq2qq5qq7quh1 => trivial
    clear hKK KK
    try simp only [pt]
    refine tkH 9 ?_
    try simp only [pt]
    have y0 := HF9.out.cell (i := 0) (v := .slice p4 (recB g0 k0 m0 l0).length q4) rfl
    have y1 := HF9.out.cell (i := 1) (v := .slice p5 0 q5) rfl
    have z0 := HF9.out.free 0
    have z1 := HF9.out.free 1
    refine rdy [10] ?_
    refine' arC rfl (fun KK hKK => ?aq2qq5qq7qu10) AllReadyH.nil
    go_simp
    refine' hKK.out _ _ ?aq2qq5qq7quh10 (fun _ => ?aq2qq5qq7qur10)
    case aq2qq5qq7quh10 => trivial
    clear hKK KK
    try simp only [pt]
    refine wpAnyH_done (by kernel_rfl) ?_ _
    have HO10 := Lib.hid (HO9.out.other (a := ⟨w5.heap.size, 1, none⟩) (by show w.heap.size + 1 + 1 ≠ w5.heap.size; have := HLT9; omega) (.slice pb N cb))
    have HB10 := Lib.hid (((Turn.refl (fun k => k = w5.heap.size) W9).setCell rfl 1 (.slice pb N cb)).below (B := w.heap.size) (by have := HB9.out.size; omega) (by intro k hk; omega))
    have HR10 := Lib.hid (HO10.out.row #[.slice p4 (recB g0 k0 m0 l0).length q4, .slice pb N cb])
    have HB11 := Lib.hid (below_setRow (HB9.out.trans HB10.out).drew (by omega : w.heap.size ≤ w.heap.size + 1 + 1) #[.slice p4 (recB g0 k0 m0 l0).length q4, .slice pb N cb])
    have hY := HF9.out.set 1 (.slice pb N cb)
    have y0 := hY.cell (i := 0) rfl
    have y1 := hY.cell (i := 1) rfl
    clear z0 z1 hY
    go_wp2_with ((with_reducible show wpList _ _ _ _ _ _); refine ws_any 64 (.tmp 6) (.tmp 68) #[.slice p4 (recB g0 k0 m0 l0).length q4, .slice pb N cb] (w.heap.size + 1 + 1) _ 64 ?_ ?_ ?_ ?_ HO10.out flash_info rfl (by simp [Value.oneCell']) ?_; rfl; rfl; rfl; rfl)
    rw [HI4.out]
    refine bodyPost_ret (v := .tuple #[.agg #[.slice p4 (recB g0 k0 m0 l0).length q4, .slice pb N cb], .bool true, .int .i64 0]) ?_ rfl ⟨_, _, rfl, rfl, rfl, HB11.out⟩
    refine res_ctt (p := 6) (u := 7) (v := 8) ?_ _ _ (w.heap.size + 1 + 1) 64 #[.slice p4 (recB g0 k0 m0 l0).length q4, .slice pb N cb] _ ?_ HR10.out Tryz.underlying64 rfl flash_info
    all_goals rfl
  case xaq2q7 =>
   go_simp
   have hab : _ ≤ w4.heap.size := hB.size
   have hB := ba hB (.cells #[.slice none 0 0, .slice none 0 0] 256) (by first | exact Nat.le_refl _ | omega)
   have hA : BlockIs (w4.alloc (.cells #[.slice none 0 0, .slice none 0 0] 256)) w4.heap.size #[.slice none 0 0, .slice none 0 0] 256 := BlockIs.new w4 #[.slice none 0 0, .slice none 0 0] 256
   refine hKK.out _ _ (HSS.out _ hB) (fun _ => ?_)
   clear hKK KK
   try simp only [pt]
   refine rdy [5] ?_
   refine' arC rfl (fun KK hKK => ?xaq2qq7q5) AllReadyH.nil
   case xaq2qq7q5 =>
    go_simp
    refine (clone_bytes _ 0 [] _ (Or.inl ⟨rfl, rfl, _, _, rfl⟩) rfl (by omega) (by simp)).mono ?_; rintro e w5 ⟨v5, rfl, ho5, hb⟩; obtain ⟨p5, q5, rfl⟩ := (own_rd ho5).form
    have hB := hB.trans (hb.mono hB.size)
    have hA := hA.kept hb
    clear hb
    refine hKK.out _ _ (HSS.out _ hB) (fun _ => ?_)
    clear hKK KK
    try simp only [pt]
    refine tkH 6 ?_
    try simp only [pt]
    have hF9 := hA.row #[.slice p4 (recB g0 k0 m0 l0).length q4, .slice p5 0 q5]
    have hB9 := below_setRow hB hab #[.slice p4 (recB g0 k0 m0 l0).length q4, .slice p5 0 q5]
    refine rdy [8] ?_
    refine' arC rfl (fun KK hKK => ?aq2qq7qq5qt8) AllReadyH.nil
    refine wp_store_row 256 (.tmp 15) (.tmp 53) rfl _ _ rfl rfl 256 _ hA slots_info rfl (by simp [Value.oneCell']) ?_
    refine hKK.out _ _ (HSS.out _ hB9) (fun _ => ?_)
    clear hKK KK
    try simp only [pt]
    refine wpAnyH_done (by kernel_rfl) ?_ _
    have hO9 := HO2.out.kept hB9
    have hob9 := own_below HOB2.out hB9
    obtain ⟨W9, hW9⟩ : ∃ W9, (w5.setRow w4.heap.size #[.slice p4 (recB g0 k0 m0 l0).length q4, .slice p5 0 q5]) = W9 := ⟨_, rfl⟩
    rw [hW9] at hF9 hB9 hO9 hob9 ⊢
    have HB9 := Lib.hid (HB3.trans (hB9.mono HB3.size))
    have HO9 := Lib.hid hO9
    have hlt9 := hF9.lt
    have HLT9 : w.heap.size + 1 + 1 < w4.heap.size := by have := hab; omega
    have HF9 := Lib.hid hF9
    have HK9 := Lib.hid (show ∀ k, (Value.slice pb N cb).ownBlock = some k → w.heap.size + 1 + 1 < k ∧ k < w4.heap.size from fun k hk => by have h1 := HOB2.out.lt k hk; have h2 := hab; simp only [World.size_alloc] at h1; omega)
    have HOB9 := Lib.hid hob9
    clear hW9 hO9 hob9 hB9 hF9 hHeld HSS hA hB hb ho4 ho5 HF2 HO2 HOB2 HW HB3
    go_upto_region 12 with fail
    refine wp_region_held_drew (S := fun W' => True) (by kernel_rfl) trivial (fun hHeld => ?_)
    refine tkH 0 ?_
    try simp only [pt]
    refine tkH 2 ?_
    try simp only [pt]
    refine tkH 3 ?_
    try simp only [pt]
    refine tkH 4 ?_
    try simp only [pt]
    refine tkH 5 ?_
    try simp only [pt]
    refine tkH 6 ?_
    try simp only [pt]
    refine tkH 7 ?_ (hy := by (intro w hSw; go_simp; rw [HI7.out]))
    try simp only [pt]
    refine tkH 8 ?_
    try simp only [pt]
    refine rdy [1] ?_
    refine' arC rfl (fun KK hKK => ?aq2qq7qq5qu1) AllReadyH.nil
    go_simp
    refine (slot_second _ _).mono ?_; rintro e v1 ⟨rfl, rfl⟩
    refine' hKK.out _ _ ?aq2qq7qq5quh1 (fun _ => ?aq2qq7qq5qur1)
    case aq2qq7qq5quh1 => trivial
    clear hKK KK
    try simp only [pt]
    refine tkH 9 ?_
    try simp only [pt]
    have y0 := HF9.out.cell (i := 0) (v := .slice p4 (recB g0 k0 m0 l0).length q4) rfl
    have y1 := HF9.out.cell (i := 1) (v := .slice p5 0 q5) rfl
    have z0 := HF9.out.free 0
    have z1 := HF9.out.free 1
    refine rdy [10] ?_
    refine' arC rfl (fun KK hKK => ?aq2qq7qq5qu10) AllReadyH.nil
    go_simp
    refine' hKK.out _ _ ?aq2qq7qq5quh10 (fun _ => ?aq2qq7qq5qur10)
    case aq2qq7qq5quh10 => trivial
    clear hKK KK
    try simp only [pt]
    refine wpAnyH_done (by kernel_rfl) ?_ _
    have HO10 := Lib.hid (HO9.out.other (a := ⟨w4.heap.size, 1, none⟩) (by show w.heap.size + 1 + 1 ≠ w4.heap.size; have := HLT9; omega) (.slice pb N cb))
    have HB10 := Lib.hid (((Turn.refl (fun k => k = w4.heap.size) W9).setCell rfl 1 (.slice pb N cb)).below (B := w.heap.size) (by have := HB9.out.size; omega) (by intro k hk; omega))
    have HR10 := Lib.hid (HO10.out.row #[.slice p4 (recB g0 k0 m0 l0).length q4, .slice pb N cb])
    have HB11 := Lib.hid (below_setRow (HB9.out.trans HB10.out).drew (by omega : w.heap.size ≤ w.heap.size + 1 + 1) #[.slice p4 (recB g0 k0 m0 l0).length q4, .slice pb N cb])
    have hY := HF9.out.set 1 (.slice pb N cb)
    have y0 := hY.cell (i := 0) rfl
    have y1 := hY.cell (i := 1) rfl
    clear z0 z1 hY
    go_wp2_with ((with_reducible show wpList _ _ _ _ _ _); refine ws_any 64 (.tmp 6) (.tmp 68) #[.slice p4 (recB g0 k0 m0 l0).length q4, .slice pb N cb] (w.heap.size + 1 + 1) _ 64 ?_ ?_ ?_ ?_ HO10.out flash_info rfl (by simp [Value.oneCell']) ?_; rfl; rfl; rfl; rfl)
    rw [HI4.out]
    refine bodyPost_ret (v := .tuple #[.agg #[.slice p4 (recB g0 k0 m0 l0).length q4, .slice pb N cb], .bool true, .int .i64 0]) ?_ rfl ⟨_, _, rfl, rfl, rfl, HB11.out⟩
    refine res_ctt (p := 6) (u := 7) (v := 8) ?_ _ _ (w.heap.size + 1 + 1) 64 #[.slice p4 (recB g0 k0 m0 l0).length q4, .slice pb N cb] _ ?_ HR10.out Tryz.underlying64 rfl flash_info
    all_goals rfl
 case xa7 =>
  go_simp
  have hab : _ ≤ W.heap.size := hB.size
  have hB := ba hB (.cells #[.slice none 0 0, .slice none 0 0] 256) (by first | exact Nat.le_refl _ | omega)
  have hA : BlockIs (W.drew.alloc (.cells #[.slice none 0 0, .slice none 0 0] 256)) W.heap.size #[.slice none 0 0, .slice none 0 0] 256 := BlockIs.new W.drew #[.slice none 0 0, .slice none 0 0] 256
  refine hKK.out _ _ (HSS.out _ hB) (fun _ => ?_)
  clear hKK KK
  try simp only [pt]
  refine rdy [2] ?_
  refine' arC rfl (fun KK hKK => ?xaq7q2) AllReadyH.nil
  case xaq7q2 =>
   go_simp
   refine (clone_bytes _ _ _ _ (HVA2.out.below hB) (by simp [bts]) (rec_len g0 k0 m0 l0 hl0').2 (bts_one _)).mono ?_; rintro e w4 ⟨v4, rfl, ho4, hb⟩; obtain ⟨p4, q4, rfl⟩ := (own_rd ho4).form
   have hB := hB.trans (hb.mono hB.size)
   have hA := hA.kept hb
   clear hb
   refine hKK.out _ _ (HSS.out _ hB) (fun _ => ?_)
   clear hKK KK
   try simp only [pt]
   refine rdy [5] ?_
   refine' arC rfl (fun KK hKK => ?xaq7qq2q5) AllReadyH.nil
   case xaq7qq2q5 =>
    go_simp
    refine (clone_bytes _ 0 [] _ (Or.inl ⟨rfl, rfl, _, _, rfl⟩) rfl (by omega) (by simp)).mono ?_; rintro e w5 ⟨v5, rfl, ho5, hb⟩; obtain ⟨p5, q5, rfl⟩ := (own_rd ho5).form
    have hB := hB.trans (hb.mono hB.size)
    have hA := hA.kept hb
    clear hb
    refine hKK.out _ _ (HSS.out _ hB) (fun _ => ?_)
    clear hKK KK
    try simp only [pt]
    refine tkH 6 ?_
    try simp only [pt]
    have hF9 := hA.row #[.slice p4 (recB g0 k0 m0 l0).length q4, .slice p5 0 q5]
    have hB9 := below_setRow hB hab #[.slice p4 (recB g0 k0 m0 l0).length q4, .slice p5 0 q5]
    refine rdy [8] ?_
    refine' arC rfl (fun KK hKK => ?aq7qq2qq5qt8) AllReadyH.nil
    refine wp_store_row 256 (.tmp 15) (.tmp 53) rfl _ _ rfl rfl 256 _ hA slots_info rfl (by simp [Value.oneCell']) ?_
    refine hKK.out _ _ (HSS.out _ hB9) (fun _ => ?_)
    clear hKK KK
    try simp only [pt]
    refine wpAnyH_done (by kernel_rfl) ?_ _
    have hO9 := HO2.out.kept hB9
    have hob9 := own_below HOB2.out hB9
    obtain ⟨W9, hW9⟩ : ∃ W9, (w5.setRow W.heap.size #[.slice p4 (recB g0 k0 m0 l0).length q4, .slice p5 0 q5]) = W9 := ⟨_, rfl⟩
    rw [hW9] at hF9 hB9 hO9 hob9 ⊢
    have HB9 := Lib.hid (HB3.trans (hB9.mono HB3.size))
    have HO9 := Lib.hid hO9
    have hlt9 := hF9.lt
    have HLT9 : w.heap.size + 1 + 1 < W.heap.size := by have := hab; omega
    have HF9 := Lib.hid hF9
    have HK9 := Lib.hid (show ∀ k, (Value.slice pb N cb).ownBlock = some k → w.heap.size + 1 + 1 < k ∧ k < W.heap.size from fun k hk => by have h1 := HOB2.out.lt k hk; have h2 := hab; simp only [World.size_alloc] at h1; omega)
    have HOB9 := Lib.hid hob9
    clear hW9 hO9 hob9 hB9 hF9 hHeld HSS hA hB hb ho4 ho5 HF2 HO2 HOB2 HW HB3
    go_upto_region 12 with fail
    refine wp_region_held_drew (S := fun W' => True) (by kernel_rfl) trivial (fun hHeld => ?_)
    refine tkH 0 ?_
    try simp only [pt]
    refine tkH 2 ?_
    try simp only [pt]
    refine tkH 3 ?_
    try simp only [pt]
    refine tkH 4 ?_
    try simp only [pt]
    refine tkH 5 ?_
    try simp only [pt]
    refine tkH 6 ?_
    try simp only [pt]
    refine tkH 7 ?_ (hy := by (intro w hSw; go_simp; rw [HI7.out]))
    try simp only [pt]
    refine tkH 8 ?_
    try simp only [pt]
    refine rdy [1] ?_
    refine' arC rfl (fun KK hKK => ?aq7qq2qq5qu1) AllReadyH.nil
    go_simp
    refine (slot_second _ _).mono ?_; rintro e v1 ⟨rfl, rfl⟩
    refine' hKK.out _ _ ?aq7qq2qq5quh1 (fun _ => ?aq7qq2qq5qur1)
    case aq7qq2qq5quh1 => trivial
    clear hKK KK
    try simp only [pt]
    refine tkH 9 ?_
    try simp only [pt]
    have y0 := HF9.out.cell (i := 0) (v := .slice p4 (recB g0 k0 m0 l0).length q4) rfl
    have y1 := HF9.out.cell (i := 1) (v := .slice p5 0 q5) rfl
    have z0 := HF9.out.free 0
    have z1 := HF9.out.free 1
    refine rdy [10] ?_
    refine' arC rfl (fun KK hKK => ?aq7qq2qq5qu10) AllReadyH.nil
    go_simp
    refine' hKK.out _ _ ?aq7qq2qq5quh10 (fun _ => ?aq7qq2qq5qur10)
    case aq7qq2qq5quh10 => trivial
    clear hKK KK
    try simp only [pt]
    refine wpAnyH_done (by kernel_rfl) ?_ _
    have HO10 := Lib.hid (HO9.out.other (a := ⟨W.heap.size, 1, none⟩) (by show w.heap.size + 1 + 1 ≠ W.heap.size; have := HLT9; omega) (.slice pb N cb))
    have HB10 := Lib.hid (((Turn.refl (fun k => k = W.heap.size) W9).setCell rfl 1 (.slice pb N cb)).below (B := w.heap.size) (by have := HB9.out.size; omega) (by intro k hk; omega))
    have HR10 := Lib.hid (HO10.out.row #[.slice p4 (recB g0 k0 m0 l0).length q4, .slice pb N cb])
    have HB11 := Lib.hid (below_setRow (HB9.out.trans HB10.out).drew (by omega : w.heap.size ≤ w.heap.size + 1 + 1) #[.slice p4 (recB g0 k0 m0 l0).length q4, .slice pb N cb])
    have hY := HF9.out.set 1 (.slice pb N cb)
    have y0 := hY.cell (i := 0) rfl
    have y1 := hY.cell (i := 1) rfl
    clear z0 z1 hY
    go_wp2_with ((with_reducible show wpList _ _ _ _ _ _); refine ws_any 64 (.tmp 6) (.tmp 68) #[.slice p4 (recB g0 k0 m0 l0).length q4, .slice pb N cb] (w.heap.size + 1 + 1) _ 64 ?_ ?_ ?_ ?_ HO10.out flash_info rfl (by simp [Value.oneCell']) ?_; rfl; rfl; rfl; rfl)
    rw [HI4.out]
    refine bodyPost_ret (v := .tuple #[.agg #[.slice p4 (recB g0 k0 m0 l0).length q4, .slice pb N cb], .bool true, .int .i64 0]) ?_ rfl ⟨_, _, rfl, rfl, rfl, HB11.out⟩
    refine res_ctt (p := 6) (u := 7) (v := 8) ?_ _ _ (w.heap.size + 1 + 1) 64 #[.slice p4 (recB g0 k0 m0 l0).length q4, .slice pb N cb] _ ?_ HR10.out Tryz.underlying64 rfl flash_info
    all_goals rfl
end Go.Proofs.YtfnifgppblbjhaaGreatDoor
