/- Part of the proof of TopHoly. -/
import Derived.Test.YtfnifgppblbjhaaGreatDoorY01
import Derived.Test.YtfnifgppblbjhaaGreatDoorY13
import Derived.Test.YtfnifgppblbjhaaGreatDoorY17
import Derived.Test.YtfnifgppblbjhaaGreatDoorY25
import Derived.Test.YtfnifgppblbjhaaGreatDoorY27
import Derived.Laws.EntriesVeiled
namespace Go.Proofs.YtfnifgppblbjhaaGreatDoor
set_option maxHeartbeats 8000000
open Go Go.RowKit
set_option linter.unusedVariables false
set_option linter.unusedSimpArgs false
theorem Tab.turn {T : Nat → Prop} {w w' : World} (h : Tab w) (hb : Turn T w w') (h1 : ¬ T 2) (h2 : ¬ T 1) : Tab w' :=
 ⟨Nat.lt_of_lt_of_le h.size hb.size, fun i hi => (World.cell?_of_block (w := w) (a := ⟨2, i, none⟩) (hb.block _ h.size h1)).trans (h.cell i hi), Nat.lt_of_lt_of_le h.size2 hb.size, fun i hi => (World.cell?_of_block (w := w) (a := ⟨1, i, none⟩) (hb.block _ h.size2 h2)).trans (h.cell2 i hi)⟩
set_option maxRecDepth 100000 in
theorem twrite_first (b : Nat) (x : Tw) (l : List Nat) (v : Value) (p q : Option Addr) (c d : Nat) (up : Bool) (ck : Int) (vu : Value) (w : World) (ht : Tab w) (h : BlockIs w b (twA x) 81) (hfa : x.fa = .slice p 0 c) (hfb : x.fb = .slice q 0 d) (hv : Rd w v l.length (bts l)) (hb : ∀ y ∈ l, y < 256) (hl : l.length ≤ 4096) (hl0 : 0 < l.length) (g1 : 0 ≤ x.gen) (g2 : x.gen < 1099511627776) (hk : I64 x.now) (m1 : 0 ≤ x.mode) (m2 : x.mode ≤ 5) (hnb : ∀ k, v.ownBlock = some k → k ≠ b) (hG1 : 2 ≠ b) (hG2 : 1 ≠ b) :
  Calls Tryz.prog 47 #[.pointer (some ⟨b, 0, none⟩), v, .agg (inA up ck vu)] w fun e w' => ∃ v1 q' d', e = .returned (.tuple #[]) ∧ BlockIs w' b (twA { x with gen := x.gen + 1, fa := v1, fb := .slice q' 0 d' }) 81 ∧ Rd w' v1 (recB (x.gen + 1) x.now x.mode l).length (bts (recB (x.gen + 1) x.now x.mode l)) ∧ Turn (fun k => k = b) w w' ∧ (∀ k, v1.ownBlock = some k → w.heap.size ≤ k) := by
 obtain ⟨bv, ov, cv, rfl, hcv, hrv⟩ := hv.some hl0
 have hI := BlockIs.new w (inA up ck vu) 54
 have HB := ((Below.refl w.heap.size w).alloc (by exact Nat.le_refl _) (.cells (inA up ck vu) 54))
 have hb0 := h.kept HB
 have hlt := h.lt
 have i2 := hI.cell (i := 2) (v := .bool false) rfl
 have c75 := hb0.cell (i := 75) (v := .int .i64 x.gen) rfl
 have f75 := hb0.free 75
 have hw1 : IntKind.i64.wrap (x.gen + 1) = x.gen + 1 := IntWalk.i64_in _ ⟨by omega, by omega⟩
 have hb1 := (h.set 75 (.int .i64 (x.gen + 1))).alloc (.cells (inA up ck vu) 54)
 have hT1 := ((Turn.refl (fun k => k = b) w).setCell rfl 75 (.int .i64 (x.gen + 1))).alloc (.cells (inA up ck vu) 54)
 have hI1 := BlockIs.new (w.setCell ⟨b, 75, none⟩ (.int .i64 (x.gen + 1))) (inA up ck vu) 54
 rw [show (w.setCell ⟨b, 75, none⟩ (.int .i64 (x.gen + 1))).heap.size = w.heap.size by simp] at hI1
 obtain ⟨W, hW⟩ : ∃ W, (w.setCell ⟨b, 75, none⟩ (.int .i64 (x.gen + 1))).alloc (.cells (inA up ck vu) 54) = W := ⟨_, rfl⟩
 rw [hW] at hb1 hT1 hI1
 have hsz : w.heap.size ≤ W.heap.size := hT1.size
 have HW := Lib.hid hW
 have i2 := hI1.cell (i := 2) (v := .bool false) rfl
 have HV := Lib.hid (rd_turn hT1 hv (fun k hk _ => hnb k hk))
 have HTt := Lib.hid (ht.turn hT1 hG1 hG2)
 have HT1 := Lib.hid hT1
 have HB1 := Lib.hid hb1
 have HSS := Lib.hid (show ∀ W', Below W.heap.size W W' → W'.cell? ⟨b, 75, none⟩ = some (.int .i64 (x.gen + 1)) ∧ W'.cell? ⟨b, 78, none⟩ = some (.int .i64 x.now) ∧ W'.cell? ⟨b, 80, none⟩ = some (.int .i64 x.mode) from fun W' hh => ⟨(hb1.kept hh).cell rfl, (hb1.kept hh).cell rfl, (hb1.kept hh).cell rfl⟩)
 clear h hv ht hb0 hT1 hb1 hI hI1 HB hrv hW
 go_enter Tryz.func47, Tryz.ntmps47
 go_upto_region 3 with fail
 rw [HW.out]
 clear c75 f75
 go_upto_region 6 with fail
 have hd := (Below.refl W.heap.size W).drew
 refine wp_region_held_drew (S := fun W' => W'.cell? ⟨b, 75, none⟩ = some (.int .i64 (x.gen + 1)) ∧ W'.cell? ⟨b, 78, none⟩ = some (.int .i64 x.now) ∧ W'.cell? ⟨b, 80, none⟩ = some (.int .i64 x.mode)) (by kernel_rfl) (HSS.out _ hd) (fun hHeld => ?_)
 refine tkH 0 ?_
 try simp only [pt]
 refine tkH 1 ?_
 try simp only [pt]
 refine tkH 2 ?_
 try simp only [pt]
 refine tkH 3 ?_
 try simp only [pt]
 refine tkH 5 ?_
 try simp only [pt]
 refine tkH 6 ?_
 try simp only [pt]
 refine tkH 7 ?_
 try simp only [pt]
 refine tkH 8 ?_
 try simp only [pt]
 refine tkH 9 ?_
 try simp only [pt]
 refine tkH 10 ?_
 try simp only [pt]
 refine tkH 11 ?_
 try simp only [pt]
 refine tkH 12 ?_
 try simp only [pt]
 refine tkH 13 ?_
 try simp only [pt]
 refine tkH 14 ?_
 try simp only [pt]
 refine tkH 15 ?_
 try simp only [pt]
 refine tkH 16 ?_
 try simp only [pt]
 refine tkH 17 ?_
 try simp only [pt]
 refine tkH 18 ?_
 try simp only [pt]
 refine tkH 19 ?_
 try simp only [pt]
 refine tkH 20 ?_
 try simp only [pt]
 have y85 : W.drew.cell? ⟨b, 85, none⟩ = some (.slice p 0 c) := HB1.out.cell (by rw [← hfa]; rfl)
 have y86 : W.drew.cell? ⟨b, 86, none⟩ = some (.slice q 0 d) := HB1.out.cell (by rw [← hfb]; rfl)
 refine rdy [4] ?_
 refine' arC rfl (fun KK hKK => ?a4) AllReadyH.nil
 go_simp
 refine hKK.out _ _ (HSS.out _ hd) (fun _ => ?_)
 clear hKK KK
 try simp only [pt]
 clear y85 y86
 refine rdy [21] ?_
 refine' arC rfl (fun KK hKK => ?a21) AllReadyH.nil
 go_simp
 refine (fwrite_first (x.gen + 1) x.now x.mode l _ p q c d _ (HTt.out.drew) HV.out hb hl hl0 (by omega) (by omega) hk m1 m2).mono ?_; rintro e w4 ⟨v1, q2, d2, rfl, ho4, hb4⟩; obtain ⟨p1, c1, rfl⟩ := (own_rd ho4).form; have hB4 := hd.trans (hb4.mono hd.size)
 refine hKK.out _ _ (HSS.out _ hB4) (fun _ => ?_)
 clear hKK KK
 try simp only [pt]
 refine tkH 22 ?_
 try simp only [pt]
 refine tkH 23 ?_
 try simp only [pt]
 refine tkH 24 ?_
 try simp only [pt]
 refine tkH 25 ?_
 try simp only [pt]
 refine tkH 26 ?_
 try simp only [pt]
 refine tkH 27 ?_
 try simp only [pt]
 have hb4k := HB1.out.kept hB4
 have hT4 : Turn (fun k => k = b) w4 ((w4.setCell ⟨b, 85, none⟩ (.slice p1 (recB (x.gen + 1) x.now x.mode l).length c1)).setCell ⟨b, 86, none⟩ (.slice q2 0 d2)) := ((Turn.refl (fun k => k = b) w4).setCell rfl 85 _).setCell rfl 86 _
 have hb5 := (hb4k.set 85 (.slice p1 (recB (x.gen + 1) x.now x.mode l).length c1)).set 86 (.slice q2 0 d2)
 have hlt4 := hB4.size
 have HR5 := Lib.hid (own_rd (hT4.own ho4 (fun k hk => by have h1 := (ho4.lt k hk).1; have h2 : W.drew.heap.size = W.heap.size := rfl; omega)))
 have HN5 := Lib.hid (show ∀ k, (Value.slice p1 (recB (x.gen + 1) x.now x.mode l).length c1).ownBlock = some k → w.heap.size ≤ k from fun k hk => by have h1 := (ho4.lt k hk).1; have h2 : W.drew.heap.size = W.heap.size := rfl; omega)
 refine rdy [28] ?_
 refine' arC rfl (fun KK hKK => ?a28) AllReadyH.nil
 have y85 := hb4k.cell (i := 85) (v := x.fa) rfl
 have y86 := hb4k.cell (i := 86) (v := x.fb) rfl
 have z85 := hb4k.free 85
 have z86 := hb4k.free 86
 go_simp
 refine hKK.out _ _ (⟨hb5.cell rfl, hb5.cell rfl, hb5.cell rfl⟩) (fun _ => ?_)
 clear hKK KK
 try simp only [pt]
 refine wpAnyH_done (by kernel_rfl) ?_ _
 have HB6 := Lib.hid hb5
 have HT6 := Lib.hid ((HT1.out.trans (Turn.of hB4)).trans hT4)
 clear hHeld hd hB4 hb4 hb4k hb5 hT4 y85 y86 z85 z86 HSS
 go_wp2_with fail
 go_end0
 exact ⟨_, _, _, rfl, HB6.out, HR5.out, HT6.out, HN5.out⟩
set_option maxRecDepth 100000 in
theorem twrite_second (b : Nat) (x : Tw) (g0 k0 m0 : Int) (l0 : List Nat) (l : List Nat) (v : Value) (q : Option Addr) (d : Nat) (up : Bool) (ck : Int) (vu : Value) (w : World) (ht : Tab w) (h : BlockIs w b (twA x) 81) (hra : Rd w x.fa (recB g0 k0 m0 l0).length (bts (recB g0 k0 m0 l0))) (hfb : x.fb = .slice q 0 d) (hb0 : ∀ y ∈ l0, y < 256) (hl0' : l0.length ≤ 4096) (hl00 : 0 < l0.length) (g01 : 1 ≤ g0) (g02 : g0 ≤ 1099511627776) (hk0 : I64 k0) (m01 : 0 ≤ m0) (m02 : m0 ≤ 5) (hgg : g0 ≤ x.gen) (hna : ∀ k, x.fa.ownBlock = some k → k ≠ b) (hv : Rd w v l.length (bts l)) (hb : ∀ y ∈ l, y < 256) (hl : l.length ≤ 4096) (hl0 : 0 < l.length) (g1 : 0 ≤ x.gen) (g2 : x.gen < 1099511627776) (hk : I64 x.now) (m1 : 0 ≤ x.mode) (m2 : x.mode ≤ 5) (hnb : ∀ k, v.ownBlock = some k → k ≠ b) (hG1 : 2 ≠ b) (hG2 : 1 ≠ b) :
  Calls Tryz.prog 47 #[.pointer (some ⟨b, 0, none⟩), v, .agg (inA up ck vu)] w fun e w' => ∃ v1 v2, e = .returned (.tuple #[]) ∧ BlockIs w' b (twA { x with gen := x.gen + 1, fa := v1, fb := v2 }) 81 ∧ Turn (fun k => k = b) w w' := by
 obtain ⟨bv, ov, cv, rfl, hcv, hrv⟩ := hv.some hl0
 obtain ⟨bA, oa, ca, hfa, hca, hraa⟩ := hra.some (rec_len g0 k0 m0 l0 hl0').1
 have hI := BlockIs.new w (inA up ck vu) 54
 have HB := ((Below.refl w.heap.size w).alloc (by exact Nat.le_refl _) (.cells (inA up ck vu) 54))
 have hb0 := h.kept HB
 have hlt := h.lt
 have i2 := hI.cell (i := 2) (v := .bool false) rfl
 have c75 := hb0.cell (i := 75) (v := .int .i64 x.gen) rfl
 have f75 := hb0.free 75
 have hw1 : IntKind.i64.wrap (x.gen + 1) = x.gen + 1 := IntWalk.i64_in _ ⟨by omega, by omega⟩
 have hb1 := (h.set 75 (.int .i64 (x.gen + 1))).alloc (.cells (inA up ck vu) 54)
 have hT1 := ((Turn.refl (fun k => k = b) w).setCell rfl 75 (.int .i64 (x.gen + 1))).alloc (.cells (inA up ck vu) 54)
 have hI1 := BlockIs.new (w.setCell ⟨b, 75, none⟩ (.int .i64 (x.gen + 1))) (inA up ck vu) 54
 rw [show (w.setCell ⟨b, 75, none⟩ (.int .i64 (x.gen + 1))).heap.size = w.heap.size by simp] at hI1
 obtain ⟨W, hW⟩ : ∃ W, (w.setCell ⟨b, 75, none⟩ (.int .i64 (x.gen + 1))).alloc (.cells (inA up ck vu) 54) = W := ⟨_, rfl⟩
 rw [hW] at hb1 hT1 hI1
 have hsz : w.heap.size ≤ W.heap.size := hT1.size
 have HW := Lib.hid hW
 have i2 := hI1.cell (i := 2) (v := .bool false) rfl
 have HV := Lib.hid (rd_turn hT1 hv (fun k hk _ => hnb k hk))
 have HTt := Lib.hid (ht.turn hT1 hG1 hG2)
 have HT1 := Lib.hid hT1
 have HB1 := Lib.hid hb1
 have HRA := Lib.hid (rd_turn hT1 hra (fun k hk _ => hna k hk))
 rw [hfa] at HRA
 have HSS := Lib.hid (show ∀ W', Below W.heap.size W W' → W'.cell? ⟨b, 75, none⟩ = some (.int .i64 (x.gen + 1)) ∧ W'.cell? ⟨b, 78, none⟩ = some (.int .i64 x.now) ∧ W'.cell? ⟨b, 80, none⟩ = some (.int .i64 x.mode) from fun W' hh => ⟨(hb1.kept hh).cell rfl, (hb1.kept hh).cell rfl, (hb1.kept hh).cell rfl⟩)
 clear h hv ht hb0 hT1 hb1 hI hI1 HB hrv hW hra hraa
 go_enter Tryz.func47, Tryz.ntmps47
 go_upto_region 3 with fail
 rw [HW.out]
 clear c75 f75
 go_upto_region 6 with fail
 have hd := (Below.refl W.heap.size W).drew
 refine wp_region_held_drew (S := fun W' => W'.cell? ⟨b, 75, none⟩ = some (.int .i64 (x.gen + 1)) ∧ W'.cell? ⟨b, 78, none⟩ = some (.int .i64 x.now) ∧ W'.cell? ⟨b, 80, none⟩ = some (.int .i64 x.mode)) (by kernel_rfl) (HSS.out _ hd) (fun hHeld => ?_)
 refine tkH 0 ?_
 try simp only [pt]
 refine tkH 1 ?_
 try simp only [pt]
 refine tkH 2 ?_
 try simp only [pt]
 refine tkH 3 ?_
 try simp only [pt]
 refine tkH 5 ?_
 try simp only [pt]
 refine tkH 6 ?_
 try simp only [pt]
 refine tkH 7 ?_
 try simp only [pt]
 refine tkH 8 ?_
 try simp only [pt]
 refine tkH 9 ?_
 try simp only [pt]
 refine tkH 10 ?_
 try simp only [pt]
 refine tkH 11 ?_
 try simp only [pt]
 refine tkH 12 ?_
 try simp only [pt]
 refine tkH 13 ?_
 try simp only [pt]
 refine tkH 14 ?_
 try simp only [pt]
 refine tkH 15 ?_
 try simp only [pt]
 refine tkH 16 ?_
 try simp only [pt]
 refine tkH 17 ?_
 try simp only [pt]
 refine tkH 18 ?_
 try simp only [pt]
 refine tkH 19 ?_
 try simp only [pt]
 refine tkH 20 ?_
 try simp only [pt]
 have y85 : W.drew.cell? ⟨b, 85, none⟩ = some (.slice (some ⟨bA, oa, none⟩) (recB g0 k0 m0 l0).length ca) := HB1.out.cell (by rw [← hfa]; rfl)
 have y86 : W.drew.cell? ⟨b, 86, none⟩ = some (.slice q 0 d) := HB1.out.cell (by rw [← hfb]; rfl)
 refine rdy [4] ?_
 refine' arC rfl (fun KK hKK => ?a4) AllReadyH.nil
 go_simp
 refine hKK.out _ _ (HSS.out _ hd) (fun _ => ?_)
 clear hKK KK
 try simp only [pt]
 clear y85 y86
 refine rdy [21] ?_
 refine' arC rfl (fun KK hKK => ?a21) AllReadyH.nil
 go_simp
 refine (fwrite_second g0 k0 m0 l0 _ (x.gen + 1) x.now x.mode l _ q d _ (HTt.out.drew) HRA.out hb0 hl0' hl00 g01 g02 hk0 m01 m02 (by omega) HV.out hb hl hl0 (by omega) (by omega) hk m1 m2).mono ?_; rintro e w4 ⟨v1, v2, rfl, hv1, hv2, hb4⟩; have hB4 := hd.trans (hb4.mono hd.size)
 refine hKK.out _ _ (HSS.out _ hB4) (fun _ => ?_)
 clear hKK KK
 try simp only [pt]
 refine tkH 22 ?_
 try simp only [pt]
 refine tkH 23 ?_
 try simp only [pt]
 refine tkH 24 ?_
 try simp only [pt]
 refine tkH 25 ?_
 try simp only [pt]
 refine tkH 26 ?_
 try simp only [pt]
 refine tkH 27 ?_
 try simp only [pt]
 have hb4k := HB1.out.kept hB4
 have hT4 : Turn (fun k => k = b) w4 ((w4.setCell ⟨b, 85, none⟩ v1).setCell ⟨b, 86, none⟩ v2) := ((Turn.refl (fun k => k = b) w4).setCell rfl 85 _).setCell rfl 86 _
 have hb5 := (hb4k.set 85 v1).set 86 v2
 have hlt4 := hB4.size
 refine rdy [28] ?_
 refine' arC rfl (fun KK hKK => ?a28) AllReadyH.nil
 refine wp_store_mid 64 (.tmp 49) (.tmp 45) rfl b 85 #[v1, v2] rfl rfl (there_of hb4k 85 2 (by show 85 + 2 ≤ 87; omega)) flash_info (by simp [hv1, hv2]) ?_
 refine hKK.out _ _ (⟨hb5.cell rfl, hb5.cell rfl, hb5.cell rfl⟩) (fun _ => ?_)
 clear hKK KK
 try simp only [pt]
 refine wpAnyH_done (by kernel_rfl) ?_ _
 have HB6 := Lib.hid hb5
 have HT6 := Lib.hid ((HT1.out.trans (Turn.of hB4)).trans hT4)
 clear hHeld hd hB4 hb4 hb4k hb5 hT4  HSS
 go_wp2_with fail
 go_end0
 first | exact ⟨_, _, rfl, HB6.out, HT6.out⟩ | exact ⟨⟨_, _, HB6.out⟩, HT6.out⟩ | exact ⟨rfl, ⟨_, _, HB6.out⟩, HT6.out⟩
theorem LiB.lifts {w : World} {b n : Nat} (h : LiB w b n 0) : LiftsAt w b n := fun k hk => h.at' k (Nat.zero_le _) hk
set_option maxRecDepth 100000 in
theorem tpress_not (b : Nat) (x : Tw) (g : Gr) (up : Bool) (ck : Int) (vu : Value) (w : World) (h : BlockIs w b (twA x) 81) (hm : x.mode = 1 ∨ x.mode = 2) :
  Calls Tryz.prog 26 #[.pointer (some ⟨b, 0, none⟩), .agg (inA up ck vu), .agg (grA g)] w fun e w' => e = .returned (.tuple #[]) ∧ Below w.heap.size w w' := by
 have hI := ((BlockIs.new w (inA up ck vu) 54).alloc (.cells (grA g) 91)).alloc (.cells #[.pointer (some ⟨b, 37, none⟩)] 115)
 have hG := (BlockIs.new (w.alloc (.cells (inA up ck vu) 54)) (grA g) 91).alloc (.cells #[.pointer (some ⟨b, 37, none⟩)] 115)
 simp only [World.size_alloc] at hG
 have hS := BlockIs.new ((w.alloc (.cells (inA up ck vu) 54)).alloc (.cells (grA g) 91)) #[.pointer (some ⟨b, 37, none⟩)] 115
 simp only [World.size_alloc] at hS
 have HB := ((((Below.refl w.heap.size w).alloc (by exact Nat.le_refl _) (.cells (inA up ck vu) 54)).alloc (by simp only [World.size_alloc]; omega) (.cells (grA g) 91)).alloc (by simp only [World.size_alloc]; omega) (.cells #[.pointer (some ⟨b, 37, none⟩)] 115))
 have hb := h.kept HB
 have i5 := hI.cell (i := 5) (v := .slice none 0 0) rfl
 have s0 := hS.cell (i := 0) (v := .pointer (some ⟨b, 37, none⟩)) rfl
 obtain ⟨m, hmm⟩ : ∃ m, x.mode = m := ⟨_, rfl⟩
 have c80 := hb.cell (i := 80) (v := .int .i64 m) (by rw [← hmm]; rfl)
 rw [hmm] at hm
 clear hmm
 obtain ⟨W, hW⟩ : ∃ W, ((w.alloc (.cells (inA up ck vu) 54)).alloc (.cells (grA g) 91)).alloc (.cells #[.pointer (some ⟨b, 37, none⟩)] 115) = W := ⟨_, rfl⟩
 rw [hW] at i5 s0 c80 HB
 have HW := Lib.hid hW
 have HBB := Lib.hid HB
 clear h hb hI hG hS HB hW
 rcases hm with rfl | rfl
 all_goals
  go_enter Tryz.func26, Tryz.ntmps26
  go_upto_region 3 with fail
  rw [HW.out]
  go_wp2_with fail
  go_loopw [9, 10, 11, 19] (fun _ _ _ iv wr => iv = .int .i64 0 ∧ W = wr) (fun _ _ _ _ _ => 0)
  case atStart => exact ⟨rfl, rfl⟩
  case round =>
   obtain ⟨rfl, rfl⟩ := hrel
   go_wp2_with fail
   go_end0
   exact ⟨rfl, HBB.out⟩
set_option maxRecDepth 100000 in
theorem tpress_ok (b : Nat) (x : Tw) (g : Gr) (lb n cap : Nat) (up : Bool) (ck : Int) (vu : Value) (w : World) (h : BlockIs w b (twA x) 81) (hm : x.mode = 0) (hg : GrOk g) (n1 : 1 ≤ n) (n8 : n ≤ 8) (hl : LiftsAt w lb n)
  (hx : x.lf = .slice (some ⟨lb, 0, none⟩) n cap) (hh : x.ha = .slice none 0 0) (hi : x.hi = .slice none 0 0) :
  Calls Tryz.prog 26 #[.pointer (some ⟨b, 0, none⟩), .agg (inA up ck vu), .agg (grA g)] w fun e w' => ∃ p' c' q' d', e = .returned (.tuple #[]) ∧ BlockIs w' b (twA { x with ha := .slice p' 0 c', hi := .slice q' 0 d' }) 81 ∧ Turn (fun k => k = b) w w' := by
 have hI := ((BlockIs.new w (inA up ck vu) 54).alloc (.cells (grA g) 91)).alloc (.cells #[.pointer (some ⟨b, 37, none⟩)] 115)
 have hG := (BlockIs.new (w.alloc (.cells (inA up ck vu) 54)) (grA g) 91).alloc (.cells #[.pointer (some ⟨b, 37, none⟩)] 115)
 simp only [World.size_alloc] at hG
 have hS := BlockIs.new ((w.alloc (.cells (inA up ck vu) 54)).alloc (.cells (grA g) 91)) #[.pointer (some ⟨b, 37, none⟩)] 115
 simp only [World.size_alloc] at hS
 have HB := ((((Below.refl w.heap.size w).alloc (by exact Nat.le_refl _) (.cells (inA up ck vu) 54)).alloc (by simp only [World.size_alloc]; omega) (.cells (grA g) 91)).alloc (by simp only [World.size_alloc]; omega) (.cells #[.pointer (some ⟨b, 37, none⟩)] 115))
 have hb := h.kept HB
 have hlt := h.lt
 have i5 := hI.cell (i := 5) (v := .slice none 0 0) rfl
 have s0 := hS.cell (i := 0) (v := .pointer (some ⟨b, 37, none⟩)) rfl
 have c80 := hb.cell (i := 80) (v := .int .i64 0) (by rw [← hm]; rfl)
 have HL := hl.below HB
 obtain ⟨W, hW⟩ : ∃ W, ((w.alloc (.cells (inA up ck vu) 54)).alloc (.cells (grA g) 91)).alloc (.cells #[.pointer (some ⟨b, 37, none⟩)] 115) = W := ⟨_, rfl⟩
 rw [hW] at i5 s0 c80 HB hb hI hG hS HL
 have HSS := Lib.hid (show ∀ W', Below W.heap.size W W' → W'.cell? ⟨w.heap.size + 1 + 1, 0, none⟩ = some (.pointer (some ⟨b, 37, none⟩)) ∧ W'.cell? ⟨w.heap.size, 7, none⟩ = some (.int .i64 0) ∧ W'.cell? ⟨b, 82, none⟩ = some (.slice (some ⟨lb, 0, none⟩) n cap) ∧ W'.rangeAt (w.heap.size + 1) 0 (grA g).toList from fun W' hh => ⟨(hS.kept hh).cell rfl, (hI.kept hh).cell rfl, (hb.kept hh).cell (by rw [← hx]; rfl), block_sub (hG.kept hh) 0 10⟩)
 have y83 : W.drew.cell? ⟨b, 83, none⟩ = some (.slice none 0 0) := hb.cell (by rw [← hh]; rfl)
 have y84 : W.drew.cell? ⟨b, 84, none⟩ = some (.slice none 0 0) := hb.cell (by rw [← hi]; rfl)
 have HW := Lib.hid hW
 have HL := Lib.hid HL
 have HBB := Lib.hid HB
 have Hb := Lib.hid hb
 have HI := Lib.hid hI
 have HG := Lib.hid hG
 have HS := Lib.hid hS
 have hltS := hS.lt
 clear h hb hI hG hS hm HB hW hl hx hh hi
 go_enter Tryz.func26, Tryz.ntmps26
 go_upto_region 3 with fail
 rw [HW.out]
 go_wp2_with fail
 go_loopw [9, 10, 11, 19] (fun _ _ _ iv wr => iv = .int .i64 0 ∧ W = wr) (fun _ _ _ _ _ => 0)
 case atStart => exact ⟨rfl, rfl⟩
 case round =>
  obtain ⟨rfl, rfl⟩ := hrel
  go_wp2_with fail
  have hd := (Below.refl W.heap.size W).drew
  refine wp_region_held_drew (S := fun W' => W'.cell? ⟨w.heap.size + 1 + 1, 0, none⟩ = some (.pointer (some ⟨b, 37, none⟩)) ∧ W'.cell? ⟨w.heap.size, 7, none⟩ = some (.int .i64 0) ∧ W'.cell? ⟨b, 82, none⟩ = some (.slice (some ⟨lb, 0, none⟩) n cap) ∧ W'.rangeAt (w.heap.size + 1) 0 (grA g).toList) (by kernel_rfl) (HSS.out _ hd) (fun hHeld => ?_)
  refine tkH 0 ?_
  try simp only [pt]
  refine tkH 1 ?_ (hy := by (intro w hSw; refine load_x 91 (.tmp 5) (grA g).toList _ 0 _ Tryz.underlying91 rfl gear_info ?_ ?_ w (hSw.2.2.2) <;> rfl))
  try simp only [pt]
  refine tkH 2 ?_
  try simp only [pt]
  refine tkH 3 ?_
  try simp only [pt]
  refine tkH 4 ?_
  try simp only [pt]
  refine tkH 5 ?_
  try simp only [pt]
  refine tkH 6 ?_
  try simp only [pt]
  refine tkH 7 ?_
  try simp only [pt]
  refine tkH 8 ?_
  try simp only [pt]
  refine tkH 9 ?_
  try simp only [pt]
  refine tkH 10 ?_
  try simp only [pt]
  refine rdy [11] ?_
  refine' arC rfl (fun KK hKK => ?a11) AllReadyH.nil
  go_simp
  refine hKK.out _ _ (HSS.out _ hd) (fun _ => ?_)
  clear hKK KK
  try simp only [pt]
  clear y83 y84
  refine rdy [12] ?_
  refine' arC rfl (fun KK hKK => ?a12) AllReadyH.nil
  go_simp
  refine (spread_ok g lb n cap 0 _ hg n1 n8 (show LiftsAt W.drew lb n from HL.out)).mono ?_; rintro e w4 ⟨p1, c1, q1, d1, rfl, hb4⟩; have hB4 := hd.trans (hb4.mono hd.size)
  refine hKK.out _ _ (HSS.out _ hB4) (fun _ => ?_)
  clear hKK KK
  try simp only [pt]
  refine tkH 13 ?_
  try simp only [pt]
  refine tkH 14 ?_
  try simp only [pt]
  refine tkH 15 ?_
  try simp only [pt]
  refine tkH 16 ?_
  try simp only [pt]
  refine tkH 17 ?_
  try simp only [pt]
  have hb4k := Hb.out.kept hB4
  have hb5 := (hb4k.set 83 (.slice p1 0 c1)).set 84 (.slice q1 0 d1)
  have hT4 : Turn (fun k => k = b) w4 ((w4.setCell ⟨b, 83, none⟩ (.slice p1 0 c1)).setCell ⟨b, 84, none⟩ (.slice q1 0 d1)) := ((Turn.refl (fun k => k = b) w4).setCell rfl 83 _).setCell rfl 84 _
  have hS5 := ((HS.out.kept hB4).other (a := ⟨b, 83, none⟩) (by show w.heap.size + 1 + 1 ≠ b; omega) (.slice p1 0 c1)).other (a := ⟨b, 84, none⟩) (by show w.heap.size + 1 + 1 ≠ b; omega) (.slice q1 0 d1)
  have hI5 := ((HI.out.kept hB4).other (a := ⟨b, 83, none⟩) (by show w.heap.size ≠ b; omega) (.slice p1 0 c1)).other (a := ⟨b, 84, none⟩) (by show w.heap.size ≠ b; omega) (.slice q1 0 d1)
  have hG5 := ((HG.out.kept hB4).other (a := ⟨b, 83, none⟩) (by show w.heap.size + 1 ≠ b; omega) (.slice p1 0 c1)).other (a := ⟨b, 84, none⟩) (by show w.heap.size + 1 ≠ b; omega) (.slice q1 0 d1)
  have y83 := hb4k.cell (i := 83) rfl
  have y84 := hb4k.cell (i := 84) rfl
  have z83 := hb4k.free 83
  have z84 := hb4k.free 84
  have y82 := (HSS.out _ hB4).2.2.1
  have y82' : ((w4.setCell ⟨b, 83, none⟩ (.slice p1 0 c1)).setCell ⟨b, 84, none⟩ (.slice q1 0 d1)).cell? ⟨b, 82, none⟩ = some (.slice (some ⟨lb, 0, none⟩) n cap) := by
   rw [World.cell?_setCell_other _ _ _ _ (by simp), World.cell?_setCell_other _ _ _ _ (by simp)]; exact y82
  refine rdy [18] ?_
  refine' arC rfl (fun KK hKK => ?a18) AllReadyH.nil
  go_simp
  refine hKK.out _ _ (⟨hS5.cell rfl, hI5.cell rfl, y82', block_sub hG5 0 10⟩) (fun _ => ?_)
  clear hKK KK
  try simp only [pt]
  refine wpAnyH_done (by kernel_rfl) ?_ _
  have HB6 := Lib.hid hb5
  have HT6 := Lib.hid (((Turn.of HBB.out).trans (Turn.of hB4)).trans hT4)
  clear hHeld hd hB4 hb4 hb4k hb5 hT4 y83 y84 z83 z84 HSS hS5 hI5 hG5 y82 y82'
  go_wp2_with fail
  go_end0
  exact ⟨p1, c1, q1, d1, rfl, HB6.out, HT6.out⟩
def twR (x : Tw) : List Value := [.bool x.own, .int .i64 x.gen, .bool x.st, .bool x.hs, .int .i64 x.now, .int .i64 x.cand, .int .i64 x.mode, .int .i64 x.age, x.lf, x.ha, x.hi, x.fa, x.fb]
theorem tw_cfg {W : World} {b : Nat} {x : Tw} (h : BlockIs W b (twA x) 81) (c : Cfg) (v w : Value) : BlockIs (W.setCells b 37 (cfgA c v w).toList) b (twA { x with c := c, v := v, w := w }) 81 :=
 block_setCells (cfgA c v w).toList (cfgA x.c x.v x.w).toList (cfgA x.c0 x.v0 x.w0).toList (twR x) W rfl h
theorem tcfg_one (c : Cfg) (v w : Value) (hv : v.oneCell' = true) (hw : w.oneCell' = true) : (cfgA c v w).all (·.oneCell') = true := by
 simp [cfgA, hv, hw]
 simp [Value.oneCell']
def twS (x : Tw) (own : Bool) (g : Int) (v w : Value) : Tw := { x with c := x.c0, v := v, w := w, own := own, gen := g, st := false, hs := false, now := 0, cand := 0, mode := 3, age := 0, ha := .slice none 0 0, hi := .slice none 0 0 }
set_option maxRecDepth 100000 in
theorem tstart_none (b lb n cap : Nat) (x : Tw) (w : World) (h : BlockIs w b (twA x) 81) (hl : LiB w lb n 0) (hx : x.lf = .slice (some ⟨lb, 0, none⟩) n cap) (hn : n ≤ 8) (hne : lb ≠ b) (hv : x.v0.oneCell' = true) (hw : x.w0.oneCell' = true)
  (p q : Option Addr) (c d : Nat) (hfa : x.fa = .slice p 0 c) (hfb : x.fb = .slice q 0 d) :
  Calls Tryz.prog 23 #[.pointer (some ⟨b, 0, none⟩)] w fun e w' => e = .returned (.tuple #[]) ∧ BlockIs w' b (twA (twS x false 0 x.v0 x.w0)) 81 ∧ Turn (fun k => k = b) w w' := by
 have hr0 : w.rangeAt b 0 (cfgA x.c0 x.v0 x.w0).toList := block_sub h 0 37
 have hth := there_of h 37 37 (by show 37 + 37 ≤ 87; omega)
 have hT0 : Turn (fun k => k = b) w (w.setCells b 37 (cfgA x.c0 x.v0 x.w0).toList) := turn_setCells (T := fun k => k = b) rfl _ _ _ (Turn.refl _ _)
 have hb0 := tw_cfg h x.c0 x.v0 x.w0
 have HTH := Lib.hid hth
 have HV := Lib.hid hv
 have HW := Lib.hid hw
 have HT0 := Lib.hid hT0
 have HB0 := Lib.hid hb0
 have HLI := Lib.hid hl
 have HXX := Lib.hid (And.intro hx (And.intro hfa hfb))
 clear h hT0 hb0 hl hx hfa hfb hth hv hw
 go_enter Tryz.func23, Tryz.ntmps23
 go_upto_region 2 with (first
  | ((with_reducible show wpList _ _ _ _ _ _); refine wl_cfg (.tmp 16) x.c0 x.v0 x.w0 b 0 ?_ ?_ ?_ hr0 ?_; rfl; rfl; rfl)
  | ((with_reducible show wpList _ _ _ _ _ _); refine ws_at 33 (.tmp 19) (.tmp 17) b 37 (cfgA x.c0 x.v0 x.w0) rfl rfl rfl rfl 37 rfl HTH.out cfg_info (tcfg_one _ _ _ HV.out HW.out) ?_; intro W1 hW1; (have hb1 := HB0.out); (have hT1 := HT0.out); (rw [← hW1.out] at hb1 hT1); (have c74 := hb1.cell (i := 74) (v := .bool x.own) rfl); (have c75 := hb1.cell (i := 75) (v := .int .i64 x.gen) rfl); (have f74 := hb1.free 74); (have f75 := hb1.free 75); (have HB1 := Lib.hid hb1); (have HT1 := Lib.hid hT1); clear hW1 hb1 hT1))
 have hb2 : BlockIs _ b (twA { x with c := x.c0, v := x.v0, w := x.w0, own := false, gen := 0 }) 81 := (HB1.out.set 74 (.bool false)).set 75 (.int .i64 0)
 have hT2 := (HT1.out.setCell rfl 74 (.bool false)).setCell rfl 75 (.int .i64 0)
 obtain ⟨W2, hW2⟩ : ∃ W2, (W1.setCell ⟨b, 74, none⟩ (.bool false)).setCell ⟨b, 75, none⟩ (.int .i64 0) = W2 := ⟨_, rfl⟩
 rw [hW2] at hb2 hT2
 rw [hW2]
 have y85 := hb2.cell (i := 85) (v := .slice p 0 c) (by rw [← HXX.out.2.1]; rfl)
 have y86 := hb2.cell (i := 86) (v := .slice q 0 d) (by rw [← HXX.out.2.2]; rfl)
 have HB2 := Lib.hid hb2
 have HT2 := Lib.hid hT2
 clear hW2 hb2 hT2 HB1 HT1 c74 c75 f74 f75 HB0 HT0 hr0 HTH
 go_wp2_with fail
 refine (frec_none p q c d _).mono ?_; rintro e w3 ⟨rfl, hb3⟩
 unfold rc0
 have hb4 := (HB2.out.kept hb3).alloc (.cells #[.int .i64 0, .int .i64 0, .int .i64 0, .slice none 0 0] 70)
 have hT4 := (HT2.out.trans (Turn.of hb3)).alloc (.cells #[.int .i64 0, .int .i64 0, .int .i64 0, .slice none 0 0] 70)
 have y76 := hb4.cell (i := 76) rfl
 have y77 := hb4.cell (i := 77) rfl
 have y78 := hb4.cell (i := 78) rfl
 have y79 := hb4.cell (i := 79) rfl
 have y80 := hb4.cell (i := 80) rfl
 have z76 := hb4.free 76
 have z77 := hb4.free 77
 have z78 := hb4.free 78
 have z79 := hb4.free 79
 have z80 := hb4.free 80
 have HB4 := Lib.hid hb4
 have HT4 := Lib.hid hT4
 clear y85 y86 HB2 HT2 hb3 hb4 hT4
 go_wp2_with fail
 have hb5a : BlockIs _ b (twA { x with c := x.c0, v := x.v0, w := x.w0, own := false, gen := 0, st := false, hs := false }) 81 := (HB4.out.set 76 (.bool false)).set 77 (.bool false)
 have hb5b : BlockIs _ b (twA { x with c := x.c0, v := x.v0, w := x.w0, own := false, gen := 0, st := false, hs := false, now := 0, cand := 0 }) 81 := (hb5a.set 78 (.int .i64 0)).set 79 (.int .i64 0)
 have hb5 : BlockIs _ b (twA { x with c := x.c0, v := x.v0, w := x.w0, own := false, gen := 0, st := false, hs := false, now := 0, cand := 0, mode := 3 }) 81 := hb5b.set 80 (.int .i64 3)
 have hT5 := ((((HT4.out.setCell rfl 76 (.bool false)).setCell rfl 77 (.bool false)).setCell rfl 78 (.int .i64 0)).setCell rfl 79 (.int .i64 0)).setCell rfl 80 (.int .i64 3)
 have HT5 := Lib.hid hT5
 refine (tanew_ok b lb n cap { x with c := x.c0, v := x.v0, w := x.w0, own := false, gen := 0, st := false, hs := false, now := 0, cand := 0, mode := 3 } _ hb5 (HLI.out.turn hT5 hne) HXX.out.1 hn hne).mono ?_; rintro e w6 ⟨rfl, hb6, hT6⟩
 have HB6 := Lib.hid hb6
 have HT6 := Lib.hid (HT5.out.trans hT6)
 clear hb5 hb5a hb5b hT5 HT5 hb6 hT6 HB4 HT4 y76 y77 y78 y79 y80 z76 z77 z78 z79 z80
 go_wp2_with fail
 go_end0
 exact ⟨rfl, HB6.out, HT6.out⟩
end Go.Proofs.YtfnifgppblbjhaaGreatDoor
