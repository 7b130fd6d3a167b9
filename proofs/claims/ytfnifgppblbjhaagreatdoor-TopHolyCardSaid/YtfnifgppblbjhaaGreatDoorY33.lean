/- Part of the proof of TopHoly. -/
import Derived.Test.YtfnifgppblbjhaaGreatDoorY01
import Derived.Test.YtfnifgppblbjhaaGreatDoorY20
import Derived.Test.YtfnifgppblbjhaaGreatDoorY32
import Derived.Deep.RegionHeld3
namespace Go.Proofs.YtfnifgppblbjhaaGreatDoor
set_option maxHeartbeats 8000000
open Go Go.RowKit
set_option linter.unusedVariables false
set_option linter.unusedSimpArgs false
set_option maxRecDepth 100000 in
theorem build_auto (c : Cfg) (v w : Value) (m i : Int) (W : World) : (Instr.build 139 #[(0, .agg (cfgA c v w)), (1, .int .i64 m), (2, .int .i64 i), (3, .int .i64 0), (4, .agg ca0.toArray)]).run Tryz.prog W = .ok (.agg (auA c v w m i)) W := by kernel_rfl
theorem build_x {op : Oper} {a : Act} (x0 x1 x2 x3 x4 : Operand) (c : Cfg) (v w : Value) (m i : Int) (ho : op.op = .build 139 #[(0, x0), (1, x1), (2, x2), (3, x3), (4, x4)]) (h0 : a.eval x0 = .agg (cfgA c v w)) (h1 : a.eval x1 = .int .i64 m) (h2 : a.eval x2 = .int .i64 i) (h3 : a.eval x3 = .int .i64 0) (h4 : a.eval x4 = .agg ca0.toArray) (W : World) : (execOp a.eval op).run Tryz.prog W = .ok (.value (.agg (auA c v w m i))) W := by
 unfold execOp
 simp only [ho, List.map_toArray, List.map_cons, List.map_nil, h0, h1, h2, h3, h4, Sem.run_bind, Sem.run_pure, Result.andThen_ok, build_auto]
theorem one_store {P : Program} {md : Region.Mode} {ops : Array Oper} {Q : Exit → Act → World → Prop} {S : World → Prop} {fuel : Nat} {listed : Array Bool} {a : Act} {w : World} (i : Nat) {o : Oper} (ho : ops[i]? = some o) (hr : Region.ready md ops listed = [i]) (hw : Region.wanted o (yielded ops a.tmps) = true)
  (ty : TypeId) (x y : Operand) (hop : o.op = .store ty x y) (b off : Nat) (cells : Array Value) (hx : a.eval x = .pointer (some ⟨b, off, none⟩)) (hy : a.eval y = .agg cells) (ht : w.there b off cells.size) (hi : (P.info? ty).map (·.size) = some cells.size) (h1 : cells.all (·.oneCell') = true)
  (hS : S (w.setCells b off cells.toList)) (h : S (w.setCells b off cells.toList) → wpAnyH P md ops Q S fuel (listed.setIfInBounds i true) (a.put o.dst undef) (w.setCells b off cells.toList)) : wpAnyH P md ops Q S (fuel + 1) listed a w :=
 wpAnyH_ready hr (by simp) (AllReadyH.cons ho (fun K' hK => by rw [if_pos hw]; exact wp_store_mid ty x y hop b off cells hx hy ht hi h1 (hK.out _ _ hS h)) AllReadyH.nil)
theorem tbit_ok (bi : Nat) (k : Nat) (w : World) (hk : k < 8) (h : w.cell? ⟨bi, 0, none⟩ = some (.int .i64 (k : Int))) : Calls Tryz.prog 57 #[.int .i64 0, .pointer (some ⟨bi, 0, none⟩)] w fun e w' => e = .returned (.bool false) ∧ Below w.heap.size w w' := by
 have hk2 : k = 0 ∨ k = 1 ∨ k = 2 ∨ k = 3 ∨ k = 4 ∨ k = 5 ∨ k = 6 ∨ k = 7 := by omega
 rcases hk2 with rfl | rfl | rfl | rfl | rfl | rfl | rfl | rfl
 all_goals
  go_enter Tryz.func57, Tryz.ntmps57
  go_wp2_with fail
  go_ret
  exact ⟨rfl, Below.refl _ _⟩
theorem out_info3 : (Tryz.prog.info? 89).map (fun i => (i.zero, i.size, i.bytes)) = some (some (.agg #[.int .i64 0, .int .i64 0, .int .i64 0, .bool false]), 4, 32) := by kernel_rfl
theorem touch_info : (Tryz.prog.info? 135).map (·.size) = some 3 := by kernel_rfl
def tc0 : Array Value := #[.bool false, .bool false, .bool false]
theorem own_there {w : World} {base size g n cap : Nat} {e : TypeId} {xs : List Value} (h : w.ownsRow base e size (.slice (some ⟨g, 0, none⟩) n cap) n xs) : ∀ j, j < n → w.there g (j * size) size := by
 obtain ⟨hl0, ⟨hbad, _⟩ | ⟨g', cap', cur, he, hge, hcur, hcap, hcm, hcs, htk⟩⟩ := h
 ·cases hbad
 ·cases he
  intro j hj
  have h1 : (j + 1) * size ≤ cap * size := Nat.mul_le_mul_right _ (by omega)
  have h2 : (j + 1) * size = j * size + size := Nat.succ_mul _ _
  exact there_of (show BlockIs w g cur e from hcur) _ _ (by omega)
theorem rd_lt {w : World} {v : Value} {n : Nat} {cs : List Value} (h : Rd w v n cs) (hn : 0 < n) (hc : 0 < cs.length) : ∀ k, v.ownBlock = some k → k < w.heap.size := by
 obtain ⟨b, o, c, rfl, _, hr⟩ := h.some hn
 intro k hk
 cases hk
 exact World.block_lt_of_cell? w _ (hr 0 _ (List.getElem?_eq_getElem hc))
structure MoveI (W : World) (lb ob n : Nat) (k : Nat) (wr : World) : Prop where
 li : LiB wr lb n k
 ou : ∀ j, j < n → wr.there ob (j * 4) 4
 tu : Turn (fun i => i = lb ∨ i = ob) W wr
theorem MoveI.step {W wc w11 : World} {lb ob n k : Nat} {car out : List Value} (h : LiB wc lb n k) (ho : ∀ j, j < n → wc.there ob (j * 4) 4) (hT : Turn (fun i => i = lb ∨ i = ob) W wc) (hb : Below wc.heap.size wc w11) (hne : lb ≠ ob) (hc : car.length = 7) : MoveI W lb ob n (k + 1) ((w11.setCells lb (k * 10) car).setCells ob (k * 4) out) := by
 refine ⟨⟨fun j h1 h2 => ?_, fun j h2 => ?_⟩, fun j h2 => ?_, ?_⟩
 ·refine World.rangeAt_setCells_apart (World.rangeAt_setCells_apart (range_keep (h.at' j (by omega) h2) hb) lb (k * 10) car (.inr (.inr (by omega)))) ob (k * 4) out (.inl hne)
 ·exact World.there_setCells (World.there_setCells (there_keep (h.free j h2) hb) _ _ _) _ _ _
 ·exact World.there_setCells (World.there_setCells (there_keep (ho j h2) hb) _ _ _) _ _ _
 ·exact turn_setCells (T := fun i => i = lb ∨ i = ob) (.inr rfl) _ _ _ (turn_setCells (T := fun i => i = lb ∨ i = ob) (.inl rfl) _ _ _ (hT.trans (Turn.of hb)))
set_option maxRecDepth 100000 in
theorem tmove_auto (b lb n cap : Nat) (x : Tw) (up : Bool) (ck : Int) (vu : Value) (g : Gr) (w : World) (hT : TwC w b lb n cap x) (hV : TwV w b lb x) (h0 : CfgOk x.c) (hage : x.age = 0) (hmode : x.mode = 1 ∨ x.mode = 2) :
  Calls Tryz.prog 27 #[.pointer (some ⟨b, 0, none⟩), .agg (inA up ck vu), .agg (grA g)] w fun e w' => ∃ ob oc, e = .returned (.slice (some ⟨ob, 0, none⟩) n oc) ∧ BlockIs w' b (twA x) 81 ∧ Turn (fun k => k = lb) w w' := by
 obtain ⟨hb, hli, hlf, hca, hne, ht, hG1, hG2, hL1, hL2⟩ := hT
 obtain ⟨hm, hnv, hnw⟩ := hV
 obtain ⟨i0, hi0, hz0, hz1, hz2⟩ := info_hid out_info3
 have hI := (BlockIs.new w (inA up ck vu) 54).alloc (.cells (grA g) 91)
 have hG := BlockIs.new (w.alloc (.cells (inA up ck vu) 54)) (grA g) 91
 simp only [World.size_alloc] at hG
 have HB := (((Below.refl w.heap.size w).alloc (by exact Nat.le_refl _) (.cells (inA up ck vu) 54)).alloc (by simp only [World.size_alloc]; omega) (.cells (grA g) 91))
 have hb0 := hb.kept HB
 have c82 := hb0.cell (i := 82) (v := .slice (some ⟨lb, 0, none⟩) n cap) (by rw [← hlf]; rfl)
 have hn8 : n ≤ 8 := by have := h0.ca2; omega
 have hn1 : 1 ≤ n := by have := h0.ca1; omega
 have hlb : lb < w.heap.size := World.block_lt_of_cell? w _ (hli.at' 0 (Nat.le_refl _) (by omega) 0 _ rfl)
 have hltb := hb.lt
 obtain ⟨W, hW⟩ : ∃ W, (w.alloc (.cells (inA up ck vu) 54)).alloc (.cells (grA g) 91) = W := ⟨_, rfl⟩
 rw [hW] at hI hG HB hb0 c82
 have hsW : w.heap.size + 1 + 1 = W.heap.size := by rw [← hW]; simp
 have HW := Lib.hid hW
 have HX := Lib.hid (And.intro hlf (And.intro hage hmode))
 have HI := Lib.hid hI
 have HG := Lib.hid hG
 have Hb := Lib.hid hb0
 have HL := Lib.hid (hli.turn (T := fun k => k = b) (Turn.of HB) hne)
 have HC := Lib.hid (hm.below HB)
 have hst2 := h0.st.1
 have HNV := Lib.hid (show ∀ k, x.v.ownBlock = some k → k ≠ lb ∧ k < w.heap.size from fun k hk => ⟨(hnv k hk).2, rd_lt hm.s (by omega) (by simp; omega) k hk⟩)
 have HNW := Lib.hid (show ∀ k, x.w.ownBlock = some k → k ≠ lb ∧ k < w.heap.size from fun k hk => ⟨(hnw k hk).2, rd_lt hm.w (by omega) (by simp [wnA]) k hk⟩)
 have H0 := Lib.hid h0
 have HBB := Lib.hid HB
 clear hb hli hlf ht hm hnv hnw hb0 hI hG hmode hage h0 HB hW
 go_enter Tryz.func27, Tryz.ntmps27
 go_wp2_with fail
 go_step3
 go_upto_region 2 with fail
 rw [HW.out]
 go_wp2_with (at_make; refine wpList_make_full _ rfl (.tmp 21) (.tmp 21) 43 rfl W.heap.size 89 i0 (.agg #[.int .i64 0, .int .i64 0, .int .i64 0, .bool false]) 4 Tryz.underlying43 (hi0 ()) hz0 hz1 .i64 .i64 _ _ n rfl rfl rfl rfl (by rw [hz2]; omega) (by unfold maxLen; omega) (Nat.le_refl _) ?_)
 intro w2 hown hgrow
 have hb2 := below_grown hgrow
 have hou := own_there hown
 have hlt2 := (hown.lt _ rfl).2
 have Hb2 := Lib.hid (Hb.out.kept hb2)
 have HI2 := Lib.hid (HI.out.kept hb2)
 have HC2 := Lib.hid (HC.out.below hb2)
 have HL2 := Lib.hid (HL.out.turn (T := fun k => k = b) (Turn.of hb2) hne)
 have HB2 := Lib.hid (HBB.out.trans (hb2.mono HBB.out.size))
 have HS2 := Lib.hid (show MoveI w2 lb W.heap.size n 0 w2 from ⟨HL2.out, hou, Turn.refl _ _⟩)
 have y82 := Hb2.out.cell (i := 82) (v := .slice (some ⟨lb, 0, none⟩) n cap) (by rw [← HX.out.1]; rfl)
 obtain ⟨ob, hob⟩ : ∃ ob, W.heap.size = ob := ⟨_, rfl⟩
 rw [hob] at HS2 hlt2
 have hs2 := hb2.size
 rw [hob] at hs2 hsW
 rw [hob]
 clear hown hgrow hb2 hou HI HG Hb HL HC HBB HW hob c82 HL2
 have hm0 : (x.mode != 0) = true := by have := HX.out.2.2; simp; omega
 have hm5 : (x.mode != 5) = true := by have := HX.out.2.2; simp; omega
 go_wp2_with fail
 refine wp_label ?_
 go_wp2_with fail
 clear y82
 go_loopw [28] (fun iv wr => ∃ k : Nat, k ≤ n ∧ iv = .int .i64 (k : Int) ∧ Hid (MoveI w2 lb ob n k wr)) (fun iv _ => (n - intOf iv).toNat)
 case atStart => exact ⟨0, by omega, rfl, HS2⟩
 case round =>
  clear HS2
  obtain ⟨k, hk, rfl, HK⟩ := hrel
  by_cases hlt : k < n
  ·have hd0 : decide (k < n) = true := by simpa using hlt
   have hi1 : (k : Int) < (n : Int) := by omega
   have hsr := HK.out.tu.size
   have hbr := HK.out.tu.at Hb2.out (by omega)
   have hir := HK.out.tu.at HI2.out (by omega)
   have HBr := Lib.hid (hbr.alloc (.cells #[.int .i64 (k : Int)] 3))
   have HIr := Lib.hid (hir.alloc (.cells #[.int .i64 (k : Int)] 3))
   have HXr := Lib.hid (BlockIs.new wr #[.int .i64 (k : Int)] 3)
   have HTr := Lib.hid (((Below.refl _ wr).alloc (Nat.le_refl _) (.cells #[.int .i64 (k : Int)] 3)))
   have y82 := HBr.out.cell (i := 82) (v := .slice (some ⟨lb, 0, none⟩) n cap) (by rw [← HX.out.1]; rfl)
   have yi := HXr.out.cell (i := 0) (v := .int .i64 (k : Int)) rfl
   obtain ⟨W3, hW3⟩ : ∃ W3, wr.alloc (.cells #[.int .i64 (k : Int)] 3) = W3 := ⟨_, rfl⟩
   rw [hW3] at HBr HIr HXr HTr y82 yi
   have HW3 := Lib.hid hW3
   have hs3 : wr.heap.size < W3.heap.size := HXr.out.lt
   clear hbr hir hW3
   go_upto_region 7 with fail
   rw [HW3.out]
   go_quiet (fail)
   clear y82 yi
   go_upto_region 8 with fail
   have hT4 := (HK.out.tu.trans (Turn.of HTr.out)).drewN nq
   have HB4 := Lib.hid (HBr.out.drewN nq)
   have HI4 := Lib.hid (HIr.out.drewN nq)
   have HX4 := Lib.hid (HXr.out.drewN nq)
   have hs4 : W3.heap.size = (W3.drewN nq).heap.size := by simp
   have HT4 := Lib.hid hT4
   have HTw := Lib.hid (below_drewN HTr.out nq)
   obtain ⟨W4, hW4⟩ : ∃ W4, W3.drewN nq = W4 := ⟨_, rfl⟩
   rw [hW4] at HB4 HI4 HX4 HT4 HTw hs4
   rw [hW4]
   clear hT4 hW4 HBr HIr HXr HTr
   go_cut [12] (fun p12 wc => ∃ tb, p12 = .pointer (some ⟨tb, 0, none⟩) ∧ W4.heap.size ≤ tb ∧ BlockIs wc tb tc0 135 ∧ Below W4.heap.size W4 wc)
   case first =>
    have hd := (Below.refl W4.heap.size W4).drew
    have HSS := Lib.hid (show ∀ W', Below W4.heap.size W4 W' → W'.cell? ⟨w.heap.size, 6, none⟩ = some (.int .i64 0) ∧ W'.cell? ⟨w.heap.size, 7, none⟩ = some (.int .i64 0) ∧ W'.cell? ⟨w.heap.size, 8, none⟩ = some (.int .i64 0) ∧ W'.cell? ⟨wr.heap.size, 0, none⟩ = some (.int .i64 (k : Int)) from fun W' hh => ⟨(HI4.out.kept hh).cell rfl, (HI4.out.kept hh).cell rfl, (HI4.out.kept hh).cell rfl, (HX4.out.kept hh).cell rfl⟩)
    refine wp_region_held_drew (S := fun W' => W'.cell? ⟨w.heap.size, 6, none⟩ = some (.int .i64 0) ∧ W'.cell? ⟨w.heap.size, 7, none⟩ = some (.int .i64 0) ∧ W'.cell? ⟨w.heap.size, 8, none⟩ = some (.int .i64 0) ∧ W'.cell? ⟨wr.heap.size, 0, none⟩ = some (.int .i64 (k : Int))) (by kernel_rfl) (HSS.out _ hd) (fun hHeld => ?_)
    have hB := hd
    refine tkH 0 ?_
    try simp only [pt]
    refine tkH 1 ?_
    try simp only [pt]
    refine tkH 2 ?_
    try simp only [pt]
    refine tkH 4 ?_
    try simp only [pt]
    refine tkH 5 ?_
    try simp only [pt]
    refine tkH 6 ?_
    try simp only [pt]
    refine tkH 8 ?_
    try simp only [pt]
    refine tkH 9 ?_
    try simp only [pt]
    refine tkH 10 ?_
    try simp only [pt]
    refine rdy [3, 13] ?_
    refine' arC rfl (fun KK hKK => ?xa3) (arC rfl (fun KK hKK => ?xa13) AllReadyH.nil)
    case xa3 =>
     go_simp
     refine (tbit_ok wr.heap.size k _ (by omega) (HSS.out _ hB).2.2.2).mono ?_; rintro e w13 ⟨rfl, hb⟩
     have hB := hB.trans (hb.mono hB.size)
     clear hb
     refine hKK.out _ _ (HSS.out _ hB) (fun _ => ?_)
     clear hKK KK
     try simp only [pt]
     refine rdy [7, 13] ?_
     refine' arC rfl (fun KK hKK => ?xaq3q7) (arC rfl (fun KK hKK => ?xaq3q13) AllReadyH.nil)
     case xaq3q7 =>
      go_simp
      refine (tbit_ok wr.heap.size k _ (by omega) (HSS.out _ hB).2.2.2).mono ?_; rintro e w17 ⟨rfl, hb⟩
      have hB := hB.trans (hb.mono hB.size)
      clear hb
      refine hKK.out _ _ (HSS.out _ hB) (fun _ => ?_)
      clear hKK KK
      try simp only [pt]
      refine rdy [11, 13] ?_
      refine' arC rfl (fun KK hKK => ?xaq3qq7q11) (arC rfl (fun KK hKK => ?xaq3qq7q13) AllReadyH.nil)
      case xaq3qq7q11 =>
       go_simp
       refine (tbit_ok wr.heap.size k _ (by omega) (HSS.out _ hB).2.2.2).mono ?_; rintro e w21 ⟨rfl, hb⟩
       have hB := hB.trans (hb.mono hB.size)
       clear hb
       refine hKK.out _ _ (HSS.out _ hB) (fun _ => ?_)
       clear hKK KK
       try simp only [pt]
       refine tkH 12 ?_
       try simp only [pt]
       refine rdy [13] ?_
       refine' arC rfl (fun KK hKK => ?xaq3qq7qq11q13) AllReadyH.nil
       case xaq3qq7qq11q13 =>
        go_simp
        have habA := hB.size
        try simp only [World.size_alloc] at habA
        have hB := ba hB (.cells #[.bool false, .bool false, .bool false] 135) (by first | exact Nat.le_refl _ | omega)
        have hA : BlockIs (w21.alloc (.cells #[.bool false, .bool false, .bool false] 135)) (w21.heap.size) #[.bool false, .bool false, .bool false] 135 := by have h := BlockIs.new w21 #[.bool false, .bool false, .bool false] 135; (try simp only [World.size_alloc] at h); exact h
        refine hKK.out _ _ (HSS.out _ hB) (fun _ => ?_)
        clear hKK KK
        try simp only [pt]
        have hF9 := hA.row tc0
        have hB9 := below_setRow hB (b := (w21.heap.size)) habA tc0
        refine rdy [14] ?_
        refine' arC rfl (fun KK hKK => ?aq3qq7qq11qq13qt14) AllReadyH.nil
        refine wp_store_row 135 (.tmp 12) (.tmp 50) rfl _ tc0 rfl rfl 135 _ hA touch_info rfl (by simp [tc0, Value.oneCell']) ?_
        refine hKK.out _ _ (HSS.out _ hB9) (fun _ => ?_)
        clear hKK KK
        try simp only [pt]
        refine wpAnyH_done (by kernel_rfl) ?_ _
        clear hHeld
        go_wp2_with fail
        go_meet
        exact ⟨_, rfl, by omega, hF9, hB9⟩
      case xaq3qq7q13 =>
       go_simp
       have habA := hB.size
       try simp only [World.size_alloc] at habA
       have hB := ba hB (.cells #[.bool false, .bool false, .bool false] 135) (by first | exact Nat.le_refl _ | omega)
       have hA : BlockIs (w17.alloc (.cells #[.bool false, .bool false, .bool false] 135)) (w17.heap.size) #[.bool false, .bool false, .bool false] 135 := by have h := BlockIs.new w17 #[.bool false, .bool false, .bool false] 135; (try simp only [World.size_alloc] at h); exact h
       refine hKK.out _ _ (HSS.out _ hB) (fun _ => ?_)
       clear hKK KK
       try simp only [pt]
       refine rdy [11] ?_
       refine' arC rfl (fun KK hKK => ?xaq3qq7qq13q11) AllReadyH.nil
       case xaq3qq7qq13q11 =>
        go_simp
        refine (tbit_ok wr.heap.size k _ (by omega) (HSS.out _ hB).2.2.2).mono ?_; rintro e w21 ⟨rfl, hb⟩
        have hB := hB.trans (hb.mono hB.size)
        have hA := hA.kept hb
        clear hb
        refine hKK.out _ _ (HSS.out _ hB) (fun _ => ?_)
        clear hKK KK
        try simp only [pt]
        refine tkH 12 ?_
        try simp only [pt]
        have hF9 := hA.row tc0
        have hB9 := below_setRow hB (b := (w17.heap.size)) habA tc0
        refine rdy [14] ?_
        refine' arC rfl (fun KK hKK => ?aq3qq7qq13qq11qt14) AllReadyH.nil
        refine wp_store_row 135 (.tmp 12) (.tmp 50) rfl _ tc0 rfl rfl 135 _ hA touch_info rfl (by simp [tc0, Value.oneCell']) ?_
        refine hKK.out _ _ (HSS.out _ hB9) (fun _ => ?_)
        clear hKK KK
        try simp only [pt]
        refine wpAnyH_done (by kernel_rfl) ?_ _
        clear hHeld
        go_wp2_with fail
        go_meet
        exact ⟨_, rfl, by omega, hF9, hB9⟩
     case xaq3q13 =>
      go_simp
      have habA := hB.size
      try simp only [World.size_alloc] at habA
      have hB := ba hB (.cells #[.bool false, .bool false, .bool false] 135) (by first | exact Nat.le_refl _ | omega)
      have hA : BlockIs (w13.alloc (.cells #[.bool false, .bool false, .bool false] 135)) (w13.heap.size) #[.bool false, .bool false, .bool false] 135 := by have h := BlockIs.new w13 #[.bool false, .bool false, .bool false] 135; (try simp only [World.size_alloc] at h); exact h
      refine hKK.out _ _ (HSS.out _ hB) (fun _ => ?_)
      clear hKK KK
      try simp only [pt]
      refine rdy [7] ?_
      refine' arC rfl (fun KK hKK => ?xaq3qq13q7) AllReadyH.nil
      case xaq3qq13q7 =>
       go_simp
       refine (tbit_ok wr.heap.size k _ (by omega) (HSS.out _ hB).2.2.2).mono ?_; rintro e w17 ⟨rfl, hb⟩
       have hB := hB.trans (hb.mono hB.size)
       have hA := hA.kept hb
       clear hb
       refine hKK.out _ _ (HSS.out _ hB) (fun _ => ?_)
       clear hKK KK
       try simp only [pt]
       refine rdy [11] ?_
       refine' arC rfl (fun KK hKK => ?xaq3qq13qq7q11) AllReadyH.nil
       case xaq3qq13qq7q11 =>
        go_simp
        refine (tbit_ok wr.heap.size k _ (by omega) (HSS.out _ hB).2.2.2).mono ?_; rintro e w21 ⟨rfl, hb⟩
        have hB := hB.trans (hb.mono hB.size)
        have hA := hA.kept hb
        clear hb
        refine hKK.out _ _ (HSS.out _ hB) (fun _ => ?_)
        clear hKK KK
        try simp only [pt]
        refine tkH 12 ?_
        try simp only [pt]
        have hF9 := hA.row tc0
        have hB9 := below_setRow hB (b := (w13.heap.size)) habA tc0
        refine rdy [14] ?_
        refine' arC rfl (fun KK hKK => ?aq3qq13qq7qq11qt14) AllReadyH.nil
        refine wp_store_row 135 (.tmp 12) (.tmp 50) rfl _ tc0 rfl rfl 135 _ hA touch_info rfl (by simp [tc0, Value.oneCell']) ?_
        refine hKK.out _ _ (HSS.out _ hB9) (fun _ => ?_)
        clear hKK KK
        try simp only [pt]
        refine wpAnyH_done (by kernel_rfl) ?_ _
        clear hHeld
        go_wp2_with fail
        go_meet
        exact ⟨_, rfl, by omega, hF9, hB9⟩
    case xa13 =>
     go_simp
     have habA := hB.size
     try simp only [World.size_alloc] at habA
     have hB := ba hB (.cells #[.bool false, .bool false, .bool false] 135) (by first | exact Nat.le_refl _ | omega)
     have hA : BlockIs (W4.drew.alloc (.cells #[.bool false, .bool false, .bool false] 135)) (W4.heap.size) #[.bool false, .bool false, .bool false] 135 := by have h := BlockIs.new W4.drew #[.bool false, .bool false, .bool false] 135; (try simp only [World.size_alloc] at h); exact h
     refine hKK.out _ _ (HSS.out _ hB) (fun _ => ?_)
     clear hKK KK
     try simp only [pt]
     refine rdy [3] ?_
     refine' arC rfl (fun KK hKK => ?xaq13q3) AllReadyH.nil
     case xaq13q3 =>
      go_simp
      refine (tbit_ok wr.heap.size k _ (by omega) (HSS.out _ hB).2.2.2).mono ?_; rintro e w13 ⟨rfl, hb⟩
      have hB := hB.trans (hb.mono hB.size)
      have hA := hA.kept hb
      clear hb
      refine hKK.out _ _ (HSS.out _ hB) (fun _ => ?_)
      clear hKK KK
      try simp only [pt]
      refine rdy [7] ?_
      refine' arC rfl (fun KK hKK => ?xaq13qq3q7) AllReadyH.nil
      case xaq13qq3q7 =>
       go_simp
       refine (tbit_ok wr.heap.size k _ (by omega) (HSS.out _ hB).2.2.2).mono ?_; rintro e w17 ⟨rfl, hb⟩
       have hB := hB.trans (hb.mono hB.size)
       have hA := hA.kept hb
       clear hb
       refine hKK.out _ _ (HSS.out _ hB) (fun _ => ?_)
       clear hKK KK
       try simp only [pt]
       refine rdy [11] ?_
       refine' arC rfl (fun KK hKK => ?xaq13qq3qq7q11) AllReadyH.nil
       case xaq13qq3qq7q11 =>
        go_simp
        refine (tbit_ok wr.heap.size k _ (by omega) (HSS.out _ hB).2.2.2).mono ?_; rintro e w21 ⟨rfl, hb⟩
        have hB := hB.trans (hb.mono hB.size)
        have hA := hA.kept hb
        clear hb
        refine hKK.out _ _ (HSS.out _ hB) (fun _ => ?_)
        clear hKK KK
        try simp only [pt]
        refine tkH 12 ?_
        try simp only [pt]
        have hF9 := hA.row tc0
        have hB9 := below_setRow hB (b := (W4.heap.size)) habA tc0
        refine rdy [14] ?_
        refine' arC rfl (fun KK hKK => ?aq13qq3qq7qq11qt14) AllReadyH.nil
        refine wp_store_row 135 (.tmp 12) (.tmp 50) rfl _ tc0 rfl rfl 135 _ hA touch_info rfl (by simp [tc0, Value.oneCell']) ?_
        refine hKK.out _ _ (HSS.out _ hB9) (fun _ => ?_)
        clear hKK KK
        try simp only [pt]
        refine wpAnyH_done (by kernel_rfl) ?_ _
        clear hHeld
        go_wp2_with fail
        go_meet
        exact ⟨_, rfl, by omega, hF9, hB9⟩
   case rest =>
    obtain ⟨tb, rfl, htb, hT, hB⟩ := hcut
    have hBw := HTw.out.trans (hB.mono (by have := HTw.out.size; omega))
    have hTc := HT4.out.trans (Turn.of hB)
    have Hbc := Lib.hid (HB4.out.kept hB)
    have HXc := Lib.hid (HX4.out.kept hB)
    have HTb := Lib.hid hT
    have HCc := Lib.hid (show CfgM wc x.c x.v x.w from ⟨rd_turn hTc HC2.out.s (fun k hk _ => by have h1 := HNV.out k hk; omega), rd_turn hTc HC2.out.w (fun k hk _ => by have h1 := HNW.out k hk; omega)⟩)
    have hLc := HK.out.li.turn (T := fun _ => False) (Turn.of hBw) id
    have hOc : ∀ j, j < n → wc.there ob (j * 4) 4 := fun j hj => there_keep (HK.out.ou j hj) hBw
    have hcar := range_ca (hLc.at' k (Nat.le_refl _) hlt)
    have c80 := Hbc.out.cell (i := 80) (v := .int .i64 x.mode) rfl
    have HLc := Lib.hid hLc
    have HOc := Lib.hid hOc
    have HCA := Lib.hid hcar
    have HTc := Lib.hid hTc
    have hsc := hBw.size
    have hd := (Below.refl wc.heap.size wc).drew
    have HSS := Lib.hid (show ∀ W', Turn (fun i => i = lb) wc W' → W'.rangeAt b 37 (cfgA x.c x.v x.w).toList ∧ W'.cell? ⟨b, 80, none⟩ = some (.int .i64 x.mode) ∧ W'.cell? ⟨b, 81, none⟩ = some (.int .i64 0) ∧ W'.cell? ⟨wr.heap.size, 0, none⟩ = some (.int .i64 (k : Int)) ∧ W'.cell? ⟨tb, 0, none⟩ = some (.bool false) ∧ W'.cell? ⟨tb, 1, none⟩ = some (.bool false) ∧ W'.cell? ⟨tb, 2, none⟩ = some (.bool false) from fun W' hh =>
     ⟨block_sub (hh.at Hbc.out (by omega)) 37 37, (hh.at Hbc.out (by omega)).cell rfl, (hh.at Hbc.out (by omega)).cell (by rw [← HX.out.2.1]; rfl), (hh.at HXc.out (by omega)).cell rfl, (hh.at HTb.out (by omega)).cell rfl, (hh.at HTb.out (by omega)).cell rfl, (hh.at HTb.out (by omega)).cell rfl⟩)
    clear hB hBw hTc hLc hOc hcar hT HB4 HX4 HT4 HTw HI4 HW3 HK
    go_upto_region 10 with fail
    clear c80
    refine wp_region_held_drew (S := fun W' => W'.rangeAt b 37 (cfgA x.c x.v x.w).toList ∧ W'.cell? ⟨b, 80, none⟩ = some (.int .i64 x.mode) ∧ W'.cell? ⟨b, 81, none⟩ = some (.int .i64 0) ∧ W'.cell? ⟨wr.heap.size, 0, none⟩ = some (.int .i64 (k : Int)) ∧ W'.cell? ⟨tb, 0, none⟩ = some (.bool false) ∧ W'.cell? ⟨tb, 1, none⟩ = some (.bool false) ∧ W'.cell? ⟨tb, 2, none⟩ = some (.bool false)) (by kernel_rfl) (HSS.out _ (Turn.of hd)) (fun hHeld => ?_)
    refine tkH 0 ?_
    try simp only [pt]
    refine tkH 1 ?_
    try simp only [pt]
    refine tkH 2 ?_
    try simp only [pt]
    refine tkH 3 ?_
    try simp only [pt]
    refine tkH 4 ?_
    try simp only [pt]
    refine tkH 5 ?_
    try simp only [pt]
    refine tkH 6 ?_ (hy := by (intro w hSw; refine load_x 33 (.tmp 74) (cfgA x.c x.v x.w).toList _ 37 _ Tryz.underlying33 rfl cfg_info ?_ ?_ w (hSw.1) <;> rfl))
    try simp only [pt]
    refine tkH 7 ?_
    try simp only [pt]
    refine tkH 8 ?_
    try simp only [pt]
    refine tkH 9 ?_
    try simp only [pt]
    refine tkH 10 ?_
    try simp only [pt]
    refine tkH 11 ?_
    try simp only [pt]
    refine tkH 12 ?_
    try simp only [pt]
    refine tkH 13 ?_
    try simp only [pt]
    refine tkH 14 ?_
    try simp only [pt]
    refine tkH 15 ?_
    try simp only [pt]
    refine tkH 16 ?_
    try simp only [pt]
    refine tkH 17 ?_
    try simp only [pt]
    refine tkH 18 ?_
    try simp only [pt]
    refine tkH 21 ?_
    try simp only [pt]
    refine rdy [19] ?_
    refine' arC rfl (fun KK hKK => ?b19) AllReadyH.nil
    refine wp_load_mid 85 (.tmp 87) rfl lb (k * 10) rfl ca0 _ HCA.out Tryz.underlying85 rfl car_info ?_
    refine hKK.out _ _ (HSS.out _ (Turn.of hd)) (fun _ => ?_)
    clear hKK KK
    try simp only [pt]
    refine tkH 20 ?_ (hy := by (intro w hSw; refine build_x (.tmp 75) (.tmp 79) (.tmp 80) (.tmp 84) (.tmp 88) x.c x.v x.w x.mode (k : Int) ?_ ?_ ?_ ?_ ?_ ?_ w <;> rfl))
    try simp only [pt]
    refine rdy [22] ?_
    refine' arC rfl (fun KK hKK => ?b22) AllReadyH.nil
    go_simp
    refine (aStep_ok x.c x.v x.w x.mode (k : Int) _ H0.out (HCc.out.below hd) HX.out.2.2 (by omega) (by omega)).mono ?_; rintro e w11 ⟨f, d, p, l, mm, rfl, hb11⟩; have hB11 := hd.trans (hb11.mono hd.size)
    refine hKK.out _ _ (HSS.out _ (Turn.of hB11)) (fun _ => ?_)
    clear hKK KK
    try simp only [pt]
    refine tkH 23 ?_
    try simp only [pt]
    refine tkH 24 ?_
    try simp only [pt]
    refine tkH 25 ?_
    try simp only [pt]
    refine tkH 26 ?_
    try simp only [pt]
    refine tkH 27 ?_
    try simp only [pt]
    refine tkH 28 ?_
    try simp only [pt]
    have hth := Lib.hid (there_keep (HLc.out.free k hlt) hB11)
    have htho := Lib.hid (World.there_setCells (there_keep (HOc.out k hlt) hB11) lb (k * 10) (caA f d p l).toList)
    have hT29 := Lib.hid (turn_setCells (T := fun i => i = lb) (b := lb) rfl (caA f d p l).toList (k * 10) _ (Turn.of hB11))
    refine rdy [29] ?_
    refine' arC rfl (fun KK hKK => ?b29) AllReadyH.nil
    refine wp_store_mid 85 (.tmp 96) (.tmp 92) rfl lb (k * 10) (caA f d p l) rfl rfl (wl_sub hth.out (m := 7) (k := 0) (by omega)) car_info (by simp [caA, Value.oneCell']) ?_
    refine hKK.out _ _ (HSS.out _ hT29.out) (fun _ => ?_)
    clear hKK KK
    try simp only [pt]
    have hB11' := Lib.hid hB11
    clear hB11 hb11
    have hK31 := Lib.hid (MoveI.step (W := w2) (car := (caA f d p l).toList) (out := (ouA mm).toList) HLc.out HOc.out HTc.out hB11'.out (by omega) rfl)
    refine tkH 30 ?_
    try simp only [pt]
    have hT31 := Lib.hid (turn_setCells (T := fun i => i = lb ∨ i = ob) (b := ob) (.inr rfl) (ouA mm).toList (k * 4) _ (hT29.out.mono (fun i hi => Or.inl hi)))
    refine' one_store 31 (o := { dst := none, op := Op.store 89 (Operand.tmp 97) (Operand.tmp 93), type := 0, pos := "super.go:197", after := List.toArray ({ on := 30, ground := Ground.data } :: { on := 25, ground := Ground.data } :: { on := 29, ground := Ground.chain } :: { on := 0, ground := Ground.phase } :: { on := 1, ground := Ground.phase } :: { on := 2, ground := Ground.phase } :: { on := 3, ground := Ground.phase } :: { on := 4, ground := Ground.phase } :: { on := 5, ground := Ground.phase } :: { on := 6, ground := Ground.phase } :: { on := 7, ground := Ground.phase } :: { on := 8, ground := Ground.phase } :: { on := 9, ground := Ground.phase } :: { on := 10, ground := Ground.phase } :: { on := 11, ground := Ground.phase } :: { on := 12, ground := Ground.phase } :: { on := 13, ground := Ground.phase } :: { on := 14, ground := Ground.phase } :: { on := 15, ground := Ground.phase } :: { on := 16, ground := Ground.phase } :: { on := 17, ground := Ground.phase } :: { on := 18, ground := Ground.phase } :: { on := 19, ground := Ground.phase } :: { on := 20, ground := Ground.phase } :: { on := 21, ground := Ground.phase } :: { on := 22, ground := Ground.phase } :: { on := 23, ground := Ground.phase } :: { on := 24, ground := Ground.phase } :: { on := 25, ground := Ground.phase } :: { on := 26, ground := Ground.textOnly Departure.lateStores } :: { on := 27, ground := Ground.phase } :: { on := 28, ground := Ground.phase } :: { on := 29, ground := Ground.phase } :: []), guard := none }) rfl (by kernel_rfl) (by kernel_rfl) 89 (.tmp 97) (.tmp 93) rfl ob (k * 4) (ouA mm) rfl rfl htho.out out_info (by simp [ouA, Value.oneCell']) ?bh31 (fun _ => ?br31)
    case bh31 => exact ⟨block_sub (hT31.out.at Hbc.out (by omega)) 37 37, (hT31.out.at Hbc.out (by omega)).cell rfl, (hT31.out.at Hbc.out (by omega)).cell (by rw [← HX.out.2.1]; rfl), (hT31.out.at HXc.out (by omega)).cell rfl, (hT31.out.at HTb.out (by omega)).cell rfl, (hT31.out.at HTb.out (by omega)).cell rfl, (hT31.out.at HTb.out (by omega)).cell rfl⟩
    try simp only [pt]
    refine wpAnyH_done (by kernel_rfl) ?_ _
    clear hHeld hd HSS hB11' hT29 hT31 hth htho HLc HOc HTc HCA HCc HTb HXc Hbc
    obtain ⟨W31, hW31⟩ : ∃ W31, (w11.setCells lb (k * 10) (caA f d p l).toList).setCells ob (k * 4) (ouA mm).toList = W31 := ⟨_, rfl⟩
    rw [hW31] at hK31
    rw [hW31]
    clear hW31
    go_wp2_with fail
    go_round
    case rel => exact ⟨k + 1, by omega, by go_num, hK31⟩
    case measure => simp [intOf]; omega
  ·have e : k = n := by omega
   subst e
   have hd0 : decide (k < k) = false := by simp
   have hbr := Lib.hid (HK.out.tu.at Hb2.out (by omega))
   go_wp2_with fail
   rw [Exit.noGoto_ret]
   go_ret
   have hTT := HK.out.tu
   have hBB := HB2.out
   exact ⟨ob, k, rfl, hbr.out, ⟨hTT.os.trans hBB.os, hTT.tape.trans hBB.tape, hTT.output.trans hBB.output, Nat.le_trans hBB.size hTT.size, fun i hi hn => (hTT.block i (by have := hBB.size; omega) (by intro h; rcases h with h | h; exact hn h; omega)).trans (hBB.block i hi)⟩⟩
end Go.Proofs.YtfnifgppblbjhaaGreatDoor
