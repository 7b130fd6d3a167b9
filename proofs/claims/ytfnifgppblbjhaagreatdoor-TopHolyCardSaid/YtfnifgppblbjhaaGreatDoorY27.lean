/- Part of the proof of TopHoly. -/
import Derived.Test.YtfnifgppblbjhaaGreatDoorY01
import Derived.Test.YtfnifgppblbjhaaGreatDoorY24
import Derived.Test.YtfnifgppblbjhaaGreatDoorY26
import Derived.Deep.DeepCutAuto
import Derived.Deep.RegionHeld3
import Derived.Lib.SlBytesConst
namespace Go.Proofs.YtfnifgppblbjhaaGreatDoor
set_option maxHeartbeats 8000000
open Go Go.RowKit
set_option linter.unusedVariables false
set_option linter.unusedSimpArgs false
theorem mixedS3 : Tryz.prog.follows .mixedOrders = true := by kernel_rfl
theorem times_info0 : (Tryz.prog.info? 24).map (·.size) = some 7 := by kernel_rfl
theorem zone_info0 : (Tryz.prog.info? 28).map (·.size) = some 10 := by kernel_rfl
theorem rd_turn {T : Nat → Prop} {w w' : World} {v : Value} {n : Nat} {cs : List Value} (h : Turn T w w') (hv : Rd w v n cs) (hn : ∀ k, v.ownBlock = some k → k < w.heap.size → ¬ T k) : Rd w' v n cs := by
 rcases hv with hv | ⟨h0, b, o, c, e, hc, hr⟩
 ·exact .inl hv
 ·refine .inr ⟨h0, b, o, c, e, hc, fun j u hu => ?_⟩
  have := hr j u hu
  have hlt := World.block_lt_of_cell? w _ this
  exact (World.cell?_of_block (w := w) (a := ⟨b, o + j, none⟩) (h.block b hlt (hn b (by rw [e]; rfl) hlt))).trans this
theorem wl_append_grow {P : Program} {w : World} {ops : Array Oper} {rest : List Oper} {o : Oper} {a : Act} {Q : Exit → Act → World → Prop} (hgd : o.guard = none) (s x : Operand) (t : TypeId) (ho : o.op = .call { callee := .builtin .append, args := #[s, x], argTypes := #[t, t] })
  (base : Nat) (e : TypeId) (i : TypeInfo) (z : Value) (bytes : Nat) (ht : P.underlying t = some (.slice e)) (hi : P.info? e = some i) (hz : i.zero = some z) (hsize : i.size = 1) (hby : i.bytes = bytes) (hzs : z.cells.size = 1)
  (b : Addr) (n cap : Nat) (xs : List Value) (hs : a.eval s = .slice (some b) n cap) (hl0 : xs.length = n) (holds : ∀ j u, xs[j]? = some u → w.cell? (b.add j) = some u)
  (ad : Addr) (m c : Nat) (news : List Value) (hx : a.eval x = .slice (some ad) m c) (hl : news.length = m) (hnews : ∀ j u, news[j]? = some u → w.cell? (ad.add j) = some u)
  (hcap : cap < n + m) (h63 : n + m ≤ maxLen) (hbytes : (n + m) * bytes ≤ 140737488355328) (hbase : base ≤ w.heap.size)
  (h : ∀ g cap' w', w'.ownsRow base e 1 (.slice (some ⟨g, 0, none⟩) (n + m) cap') (n + m) (xs ++ news) → Below w.heap.size w w' → w.heap.size ≤ g → wpList P ops Q rest (a.put o.dst (.slice (some ⟨g, 0, none⟩) (n + m) cap')) w') : wpList P ops Q (o :: rest) a w := by
 refine wpList_plain hgd fun K hK => ?_
 have hr := run_append_grow (P := P) w t o.type e i z ht hi hz b n cap xs (by rw [hsize]; omega) holds ad m c news (by rw [hsize]; omega) hnews hcap (by unfold maxLen at h63; omega) (growslice_fits (by omega) (by rw [hby]; exact hbytes))
 have hge := grownCap_ge w (n + m) cap e
 have hcm := grownCap_le_maxLen w (n + m) cap e h63
 unfold Oper.wp execOp
 simp only [ho, resolve, invoke, builtin, Sem.run_bind, Sem.run_pure, Result.andThen_ok, List.map_toArray, List.map_cons, List.map_nil, hs, hx, hr]
 refine hK _ _ (h w.heap.size _ _ ⟨by simp; omega, .inr ⟨w.heap.size, _, _, rfl, hbase, heap_alloc_new w.drew _, hge, hcm, ?_, ?_⟩⟩ ((Below.refl _ w).drew.alloc (Nat.le_refl _) _) (Nat.le_refl _))
 ·simp only [Array.size_append, List.size_toArray, size_zeroCells, hzs, hl0, hl]
  omega
 ·have hll : (xs ++ news).length = (n + m) * 1 := by simp; omega
  simp only [Array.toList_append, List.append_assoc]
  rw [← List.append_assoc, ← hll]
  exact List.take_left
def EncI (c : Cfg) (W15 : World) (g11 Bx : Nat) (out iv : Value) (wr : World) : Prop :=
 ∃ k : Nat, k ≤ 6 ∧ iv = .int .i64 (k : Int) ∧ wr.ownsRow Bx 5 1 out (3 + preL c k) (bts (preB c k)) ∧ (∀ q, out.ownBlock = some q → q = g11 ∨ W15.heap.size ≤ q) ∧ Turn (fun k => k = g11) W15 wr
set_option maxRecDepth 100000 in
theorem cencode_ok (c : Cfg) (vs vw : Value) (w : World) (ht : Tab w) (h : CfgOk c) (hm : CfgM w c vs vw) :
  Calls Tryz.prog 18 #[.agg (cfgA c vs vw)] w fun e w' => ∃ v', e = .returned (.tuple #[v', .int .i64 0]) ∧ w'.ownsRow w.heap.size 5 1 v' (cfgB c).length (bts (cfgB c)) ∧ Below w.heap.size w w' := by
 obtain ⟨i0, hi0, hz0, hz1, hz2⟩ := info_hid int_info0
 obtain ⟨j0, hj0, hy0, hy1, hy2⟩ := info_hid byte_info
 obtain ⟨ps, qs, rfl⟩ := hm.s.form
 obtain ⟨bw, ow, cw, rfl, hcw, hrw⟩ := hm.w.some (by omega)
 have bz := BlockIs.new w (cfgA c (.slice ps c.st.length qs) (.slice (some ⟨bw, ow, none⟩) 1 cw)) 33
 have HB0 := (Below.refl w.heap.size w).alloc (Nat.le_refl _) (.cells (cfgA c (.slice ps c.st.length qs) (.slice (some ⟨bw, ow, none⟩) 1 cw)) 33)
 have HM := Lib.hid (hm.below HB0)
 have HT := Lib.hid (ht.below HB0)
 have HH := Lib.hid h
 have HRW := Lib.hid (range_keep hrw HB0)
 have HBZ := Lib.hid bz
 have HBB := Lib.hid HB0
 clear hm h bz HB0 hrw ht
 go_enter Tryz.func18, Tryz.ntmps18
 go_wp2_with ((with_reducible show wpList _ _ _ _ _ _); refine wl_box (.tmp 1) c _ _ w.heap.size 33 rfl rfl rfl HBZ.out ?_)
 refine (kCheck_ok c _ _ _ HH.out HM.out).mono ?_; rintro e w1 ⟨rfl, hb1⟩
 have BZ := HBZ.out.kept hb1
 have HB1 := HBB.out.trans (hb1.mono HBB.out.size)
 have HRW1 := Lib.hid (range_keep HRW.out hb1)
 have HM1 := Lib.hid (HM.out.below hb1)
 have HT1 := Lib.hid (HT.out.below hb1)
 have e35 : w1.cell? ⟨w.heap.size, 35, none⟩ = some (.bool c.ab) := BZ.cell rfl
 have BZ1 := Lib.hid BZ
 have HBB1 := Lib.hid HB1
 have hlt1 := BZ.lt
 clear hb1 HM HT HRW HBZ HBB BZ HB1
 go_upto_if 20 with fail
 go_cut [5] (fun x wc => x = .int .i64 (abI c.ab) ∧ wc = w1)
 case first =>
  go_wp2_with fail
  all_goals (go_meet; exact ⟨by simp_all [abI], rfl⟩)
 case rest =>
  obtain ⟨rfl, hwc⟩ := hcut
  replace hwc := hwc.symm
  subst hwc
  clear e35
  go_upto_region 7 with fail
  go_cut [6, 7] (fun p6 p7 W7 => ∃ bt bz, p6 = .pointer (some ⟨bt, 0, none⟩) ∧ p7 = .pointer (some ⟨bz, 0, none⟩) ∧ BlockIs W7 bt (timesA c) 24 ∧ BlockIs W7 bz (zoneA c.z) 28 ∧ Below w1.heap.size w1 W7)
  case first =>
   have hB : Below w1.heap.size w1 w1.drew := (Below.refl _ _).drew
   have HSS := Lib.hid (show ∀ W', Below w1.heap.size w1 W' → W'.rangeAt w.heap.size 0 (cfgA c (.slice ps c.st.length qs) (.slice (some ⟨bw, ow, none⟩) 1 cw)).toList from fun W' h => cfg_range (BZ1.out.kept h))
   refine wp_region_held_drew (S := fun W' => W'.rangeAt w.heap.size 0 (cfgA c (.slice ps c.st.length qs) (.slice (some ⟨bw, ow, none⟩) 1 cw)).toList) (by kernel_rfl) (HSS.out _ hB) (fun hHeld => ?_)
   refine tkH 0 ?_
   try simp only [pt]
   refine tkH 2 ?_
   try simp only [pt]
   refine tkH 1 ?_ (hy := by (intro w hSw; refine load_x 24 (.tmp 21) (timesA c).toList _ 4 _ Tryz.underlying24 rfl times_info0 ?_ ?_ w (by have := sub_range 4 7 hSw; rw [Nat.zero_add] at this; exact this) <;> rfl))
   try simp only [pt]
   refine tkH 3 ?_ (hy := by (intro w hSw; refine load_x 28 (.tmp 23) (zoneA c.z).toList _ 13 _ Tryz.underlying28 rfl zone_info0 ?_ ?_ w (by have := sub_range 13 10 hSw; rw [Nat.zero_add] at this; exact this) <;> rfl))
   try simp only [pt]
   refine rdy [4, 5] ?_
   refine' arC rfl (fun KK hKK => ?xa4) (arC rfl (fun KK hKK => ?xa5) AllReadyH.nil)
   case xa4 =>
    go_simp
    have habA := hB.size
    try simp only [World.size_alloc] at habA
    have hB := ba hB (.cells #[.int .i64 0, .int .i64 0, .int .i64 0, .int .i64 0, .int .i64 0, .int .i64 0, .int .i64 0] 24) (by first | exact Nat.le_refl _ | omega)
    have hA : BlockIs (w1.drew.alloc (.cells #[.int .i64 0, .int .i64 0, .int .i64 0, .int .i64 0, .int .i64 0, .int .i64 0, .int .i64 0] 24)) (w1.heap.size) #[.int .i64 0, .int .i64 0, .int .i64 0, .int .i64 0, .int .i64 0, .int .i64 0, .int .i64 0] 24 := by have h := BlockIs.new w1.drew #[.int .i64 0, .int .i64 0, .int .i64 0, .int .i64 0, .int .i64 0, .int .i64 0, .int .i64 0] 24; (try simp only [World.size_alloc] at h); exact h
    refine hKK.out _ _ (HSS.out _ hB) (fun _ => ?_)
    clear hKK KK
    try simp only [pt]
    refine rdy [5] ?_
    refine' arC rfl (fun KK hKK => ?xaq4q5) AllReadyH.nil
    case xaq4q5 =>
     go_simp
     have habZ := hB.size
     try simp only [World.size_alloc] at habZ
     have hB := ba hB (.cells #[.int .i64 0, .int .i64 0, .int .i64 0, .int .i64 0, .int .i64 0, .int .i64 0, .int .i64 0, .int .i64 0, .int .i64 0, .int .i64 0] 28) (by first | exact Nat.le_refl _ | omega)
     have hA := hA.alloc (.cells #[.int .i64 0, .int .i64 0, .int .i64 0, .int .i64 0, .int .i64 0, .int .i64 0, .int .i64 0, .int .i64 0, .int .i64 0, .int .i64 0] 28)
     have hZ : BlockIs ((w1.drew.alloc (.cells #[.int .i64 0, .int .i64 0, .int .i64 0, .int .i64 0, .int .i64 0, .int .i64 0, .int .i64 0] 24)).alloc (.cells #[.int .i64 0, .int .i64 0, .int .i64 0, .int .i64 0, .int .i64 0, .int .i64 0, .int .i64 0, .int .i64 0, .int .i64 0, .int .i64 0] 28)) (w1.heap.size + 1) #[.int .i64 0, .int .i64 0, .int .i64 0, .int .i64 0, .int .i64 0, .int .i64 0, .int .i64 0, .int .i64 0, .int .i64 0, .int .i64 0] 28 := by have h := BlockIs.new (w1.drew.alloc (.cells #[.int .i64 0, .int .i64 0, .int .i64 0, .int .i64 0, .int .i64 0, .int .i64 0, .int .i64 0] 24)) #[.int .i64 0, .int .i64 0, .int .i64 0, .int .i64 0, .int .i64 0, .int .i64 0, .int .i64 0, .int .i64 0, .int .i64 0, .int .i64 0] 28; (try simp only [World.size_alloc] at h); exact h
     refine hKK.out _ _ (HSS.out _ hB) (fun _ => ?_)
     clear hKK KK
     try simp only [pt]
     have hne : (w1.heap.size) ≠ (w1.heap.size + 1) := by omega
     have hZ1 := hZ.rowOther (b' := (w1.heap.size)) (by omega) (timesA c)
     have hB1 := below_setRow hB (b := (w1.heap.size)) habA (timesA c)
     have hB2 := below_setRow hB1 (b := (w1.heap.size + 1)) habZ (zoneA c.z)
     have hA2 := (hA.row (timesA c)).rowOther (b' := (w1.heap.size + 1)) (by omega) (zoneA c.z)
     have hZ2 := hZ1.row (zoneA c.z)
     refine rdy [6] ?_
     refine' arC rfl (fun KK hKK => ?aq4qq5qt6) AllReadyH.nil
     refine wp_store_row 24 (.tmp 6) (.tmp 22) rfl _ (timesA c) rfl rfl 24 _ hA times_info0 rfl (by simp [timesA, Value.oneCell']) ?_
     refine hKK.out _ _ (HSS.out _ hB1) (fun _ => ?_)
     clear hKK KK
     try simp only [pt]
     refine rdy [7] ?_
     refine' arC rfl (fun KK hKK => ?aq4qq5qt7) AllReadyH.nil
     refine wp_store_row 28 (.tmp 7) (.tmp 24) rfl _ (zoneA c.z) rfl rfl 28 _ hZ1 zone_info0 rfl (by simp [zoneA, Value.oneCell']) ?_
     refine hKK.out _ _ (HSS.out _ hB2) (fun _ => ?_)
     clear hKK KK
     try simp only [pt]
     refine wpAnyH_done (by kernel_rfl) ?_ _
     clear hHeld
     go_wp2_with fail
     go_meet
     exact ⟨_, _, rfl, rfl, hA2, hZ2, hB2⟩
   case xa5 =>
    go_simp
    have habZ := hB.size
    try simp only [World.size_alloc] at habZ
    have hB := ba hB (.cells #[.int .i64 0, .int .i64 0, .int .i64 0, .int .i64 0, .int .i64 0, .int .i64 0, .int .i64 0, .int .i64 0, .int .i64 0, .int .i64 0] 28) (by first | exact Nat.le_refl _ | omega)
    have hZ : BlockIs (w1.drew.alloc (.cells #[.int .i64 0, .int .i64 0, .int .i64 0, .int .i64 0, .int .i64 0, .int .i64 0, .int .i64 0, .int .i64 0, .int .i64 0, .int .i64 0] 28)) (w1.heap.size) #[.int .i64 0, .int .i64 0, .int .i64 0, .int .i64 0, .int .i64 0, .int .i64 0, .int .i64 0, .int .i64 0, .int .i64 0, .int .i64 0] 28 := by have h := BlockIs.new w1.drew #[.int .i64 0, .int .i64 0, .int .i64 0, .int .i64 0, .int .i64 0, .int .i64 0, .int .i64 0, .int .i64 0, .int .i64 0, .int .i64 0] 28; (try simp only [World.size_alloc] at h); exact h
    refine hKK.out _ _ (HSS.out _ hB) (fun _ => ?_)
    clear hKK KK
    try simp only [pt]
    refine rdy [4] ?_
    refine' arC rfl (fun KK hKK => ?xaq5q4) AllReadyH.nil
    case xaq5q4 =>
     go_simp
     have habA := hB.size
     try simp only [World.size_alloc] at habA
     have hB := ba hB (.cells #[.int .i64 0, .int .i64 0, .int .i64 0, .int .i64 0, .int .i64 0, .int .i64 0, .int .i64 0] 24) (by first | exact Nat.le_refl _ | omega)
     have hZ := hZ.alloc (.cells #[.int .i64 0, .int .i64 0, .int .i64 0, .int .i64 0, .int .i64 0, .int .i64 0, .int .i64 0] 24)
     have hA : BlockIs ((w1.drew.alloc (.cells #[.int .i64 0, .int .i64 0, .int .i64 0, .int .i64 0, .int .i64 0, .int .i64 0, .int .i64 0, .int .i64 0, .int .i64 0, .int .i64 0] 28)).alloc (.cells #[.int .i64 0, .int .i64 0, .int .i64 0, .int .i64 0, .int .i64 0, .int .i64 0, .int .i64 0] 24)) (w1.heap.size + 1) #[.int .i64 0, .int .i64 0, .int .i64 0, .int .i64 0, .int .i64 0, .int .i64 0, .int .i64 0] 24 := by have h := BlockIs.new (w1.drew.alloc (.cells #[.int .i64 0, .int .i64 0, .int .i64 0, .int .i64 0, .int .i64 0, .int .i64 0, .int .i64 0, .int .i64 0, .int .i64 0, .int .i64 0] 28)) #[.int .i64 0, .int .i64 0, .int .i64 0, .int .i64 0, .int .i64 0, .int .i64 0, .int .i64 0] 24; (try simp only [World.size_alloc] at h); exact h
     refine hKK.out _ _ (HSS.out _ hB) (fun _ => ?_)
     clear hKK KK
     try simp only [pt]
     have hne : (w1.heap.size + 1) ≠ (w1.heap.size) := by omega
     have hZ1 := hZ.rowOther (b' := (w1.heap.size + 1)) (by omega) (timesA c)
     have hB1 := below_setRow hB (b := (w1.heap.size + 1)) habA (timesA c)
     have hB2 := below_setRow hB1 (b := (w1.heap.size)) habZ (zoneA c.z)
     have hA2 := (hA.row (timesA c)).rowOther (b' := (w1.heap.size)) (by omega) (zoneA c.z)
     have hZ2 := hZ1.row (zoneA c.z)
     refine rdy [6] ?_
     refine' arC rfl (fun KK hKK => ?aq5qq4qt6) AllReadyH.nil
     refine wp_store_row 24 (.tmp 6) (.tmp 22) rfl _ (timesA c) rfl rfl 24 _ hA times_info0 rfl (by simp [timesA, Value.oneCell']) ?_
     refine hKK.out _ _ (HSS.out _ hB1) (fun _ => ?_)
     clear hKK KK
     try simp only [pt]
     refine rdy [7] ?_
     refine' arC rfl (fun KK hKK => ?aq5qq4qt7) AllReadyH.nil
     refine wp_store_row 28 (.tmp 7) (.tmp 24) rfl _ (zoneA c.z) rfl rfl 28 _ hZ1 zone_info0 rfl (by simp [zoneA, Value.oneCell']) ?_
     refine hKK.out _ _ (HSS.out _ hB2) (fun _ => ?_)
     clear hKK KK
     try simp only [pt]
     refine wpAnyH_done (by kernel_rfl) ?_ _
     clear hHeld
     go_wp2_with fail
     go_meet
     exact ⟨_, _, rfl, rfl, hA2, hZ2, hB2⟩
  case rest =>
   obtain ⟨bt, bz, rfl, rfl, hT7, hZ7, hB7⟩ := hcut
   obtain ⟨W7, hW7⟩ : ∃ W7, W7 = wc := ⟨_, rfl⟩
   subst hW7
   have hB7' := hB7
   have BZ7 := Lib.hid (BZ1.out.kept hB7)
   have HRW7 := Lib.hid (range_keep HRW1.out hB7)
   have HM7 := Lib.hid (HM1.out.below hB7)
   have HT7 := Lib.hid (HT1.out.below hB7)
   have HBB7 := Lib.hid (HBB1.out.trans (hB7.mono HBB1.out.size))
   have HTB := Lib.hid hT7
   have HZB := Lib.hid hZ7
   have hlt7 := BZ7.out.lt
   have hst : ∀ out, out = .slice none 0 0 → WinI c W7 out (.int .i64 0) W7 := fun out e => ⟨.inl ⟨rfl, e⟩, Below.refl _ _⟩
   have HST := Lib.hid hst
   have c36 : W7.cell? ⟨w.heap.size, 36, none⟩ = some (.slice (some ⟨bw, ow, none⟩) 1 cw) := BZ7.out.cell rfl
   clear hst hT7 hZ7 hB7 hB7' BZ1 HRW1 HM1 HT1 HBB1
   go_wp2_with fail
   go_loopw [8, 10, 28] (fun out _ iv w9 => WinI c W7 out iv w9) (fun _ _ iv _ => (1 - intOf iv).toNat)
   case atStart => exact HST.out _ rfl
   case round =>
    clear HST
    obtain ⟨hrel, hB⟩ := hrel
    rcases hrel with ⟨rfl, rfl⟩ | ⟨rfl, hown⟩
    ·have hrw9 : wr.rangeAt bw ow (wnA c.w).toList := range_keep HRW7.out hB
     have hs := hB.size
     clear c36
     go_wp2_with (first
      | ((with_reducible show wpList _ _ _ _ _ _); refine wpList_load_mid rfl 35 (.tmp 30) rfl bw ow rfl [.int .i64 c.w.k, .int .i64 c.w.m, .int .i64 c.w.p, .int .i64 c.w.a, .int .i64 c.w.s, .int .i64 c.w.mi, .int .i64 c.w.l] _ hrw9 Tryz.underlying35 rfl wn_info ?_)
      | (at_builtin; refine wpList_append_lies _ rfl (.tmp 32) (.tmp 47) 22 rfl W7.heap.size 3 i0 (.int .i64 0) 1 8 Tryz.underlying22 (hi0 ()) hz0 hz1 hz2 rfl (by decide) _ 0 [] rfl (World.ownsRow_nil _ _ _ _) ⟨wr.heap.size + 1, 0, none⟩ 7 7 ((row6 c).map (.int .i64)) rfl rfl (row_new _ _ _ _ rfl) (int_one _ _) (by omega) (by unfold maxLen; omega) (by omega) (by simp; omega) _ rfl ?_; intro g7 cap7 w7 h7 hg7 hor7 hlt7))
     refine ⟨⟨.inr ⟨rfl, by simpa using h7⟩, ((hB.alloc hs _).alloc (by simp; omega) _).grown hg7 (by simp; omega) (fun k e => by cases e)⟩, by simp [intOf]⟩
    ·obtain ⟨gV, cV, rfl, hgV1, hgV2⟩ := hown.form (by omega)
     obtain ⟨Wr, hWr⟩ : ∃ Wr, Wr = wr := ⟨_, rfl⟩
     subst hWr
     have HOW := Lib.hid hown
     have HBL := Lib.hid hB
     clear c36 hown hB
     have kc := fun (w : World) (C : Array Value) (n c : Nat) => Lib.run_convert_bytes_const (P := Tryz.prog) w 52 5 C n c Tryz.underlying52 Tryz.underlying5
     have hb14 := ((Below.refl Wr.heap.size Wr).alloc (Nat.le_refl _) (.cells #[.int .u8 78, .int .u8 87] 5 (2, 3))).alloc (by simp) (.cells #[.int .u8 1] 5)
     have hx14 : ∀ j u, [Value.int .u8 78, .int .u8 87][j]? = some u → ((Wr.alloc (.cells #[.int .u8 78, .int .u8 87] 5 (2, 3))).alloc (.cells #[.int .u8 1] 5)).cell? ((⟨Wr.heap.size, 0, none⟩ : Addr).add j) = some u := fun j u hj => by
      refine Lib.cell?_alloc_some _ ?_
      have hh := heap_alloc_new Wr (.cells #[.int .u8 78, .int .u8 87] 5 (2, 3))
      rw [Addr.add_mid, Nat.zero_add]
      unfold World.cell?
      simp only [hh]
      simpa using hj
     go_wp2_with (first | (at_builtin; refine wl_append_grow rfl (.tmp 51) (.tmp 52) 52 rfl Wr.heap.size 5 j0 (.int .u8 0) 1 Tryz.underlying52 (hj0 ()) hy0 hy1 hy2 rfl ⟨Wr.heap.size, 0, none⟩ 2 2 [.int .u8 78, .int .u8 87] rfl rfl hx14 ⟨Wr.heap.size + 1, 0, none⟩ 1 1 [.int .u8 1] rfl rfl (row_new _ _ _ _ rfl) (by omega) (by unfold maxLen; omega) (by omega) (by simp; omega) ?_; intro g11 cap11 w11 h11 hg11 hor11))
     have hb11 := hb14.trans (hg11.mono hb14.size)
     have hgl := h11.lt g11 rfl
     have hB11 := HBL.out.trans (hb11.mono HBL.out.size)
     have BZ11 := Lib.hid (BZ7.out.kept hB11)
     have HT11 := Lib.hid (HTB.out.kept hB11)
     have HZ11 := Lib.hid (HZB.out.kept hB11)
     have HMr := Lib.hid (HM7.out.below HBL.out)
     have BZr := Lib.hid (BZ7.out.kept HBL.out)
     have HTr := Lib.hid (HT7.out.below HBL.out)
     have HBr := Lib.hid (HBB7.out.trans (HBL.out.mono HBB7.out.size))
     have H11 := Lib.hid h11
     have HB11 := Lib.hid hb11
     have hsr := HBL.out.size
     clear hb14 hx14 kc hg11 hor11 hB11 h11 hb11 BZ7 HTB HZB HM7 HT7 HBB7 HBL HRW7
     refine wp_region_any mixedS3 ?_
     refine en_region c ps qs (.slice (some ⟨gV, 0, none⟩) 7 cV) w.heap.size bt bz w11.drew _ (.slice (some ⟨bw, ow, none⟩) 1 cw) rfl rfl rfl rfl rfl rfl BZ11.out HT11.out HZ11.out ⟨_, _, _, rfl⟩ ?_
     intro u w15 hI h45 h100 h101
     obtain ⟨g, v0, v2, v3, h99, hgg, hbk, o0, o2, o3⟩ := h45
     simp only [enMask, fillL]
     rw [h99, h100, h101]
     have hgg : w11.heap.size ≤ g := hgg
     have hb15 : Below Wr.heap.size Wr w15 := HB11.out.drew.trans (hI.mono HB11.out.size)
     have hs11 := HB11.out.size
     have hs15 : w11.heap.size ≤ w15.heap.size := hI.size
     have HOUT := Lib.hid (own_below H11.out (show Below w11.heap.size w11 w15 from ⟨hI.os, hI.tape, hI.output, hI.size, hI.block⟩))
     have HROW := Lib.hid (show ∀ w3, Turn (fun k => k = g11) w15 w3 → RowsM w3 (.slice (some ⟨g, 0, none⟩) 6 6) c (fun i => [v0, .slice ps c.st.length qs, v2, v3, .slice (some ⟨w.heap.size, 23, none⟩) 12 12, .slice (some ⟨gV, 0, none⟩) 7 cV].getD i undef) from fun w3 ht => by
      have hlow : Below Wr.heap.size Wr w3 := hb15.trans (ht.below (by have := hb15.size; omega) (by intro k hk; omega))
      have hb3 := ht.at hbk (by show ¬ g = g11; omega)
      refine ⟨⟨g, 0, 6, rfl, Nat.le_refl _, block_read hb3⟩, ?_, HMr.out.s.below hlow, ?_, ?_, ?_, own_rd (own_below HOW.out hlow)⟩
      ·exact rd_turn ht (own_rd o0) (fun k hk _ => by have : w11.heap.size ≤ k := (o0.lt k hk).1; omega)
      ·exact rd_turn ht (own_rd o2) (fun k hk _ => by have : w11.heap.size ≤ k := (o2.lt k hk).1; omega)
      ·exact rd_turn ht (own_rd o3) (fun k hk _ => by have : w11.heap.size ≤ k := (o3.lt k hk).1; omega)
      ·exact .inr ⟨by omega, _, 23, 12, rfl, Nat.le_refl _, by have := cfg_sun (cfg_range (BZr.out.kept hlow)); rw [Nat.zero_add] at this; exact this⟩)
     have HLOW := Lib.hid (show ∀ w3, Turn (fun k => k = g11) w15 w3 → Below Wr.heap.size Wr w3 from fun w3 ht => hb15.trans (ht.below (by have := hb15.size; omega) (by intro k hk; omega)))
     have hlen := cfgB_len HH.out
     have hsl : (cfgB c).length = (rowsB c).length + 5 := by unfold cfgB sealV; simp only [List.length_append, List.length_cons, List.length_nil]; omega
     have HLE := Lib.hid (show (rowsB c).length ≤ 2000 by omega)
     have HST := Lib.hid (show ∀ out, out = .slice (some ⟨g11, 0, none⟩) 3 cap11 → EncI c w15 g11 Wr.heap.size out (.int .i64 0) w15 from fun out e => ⟨0, by omega, rfl, by rw [e]; exact HOUT.out, fun q hq => by rw [e] at hq; cases hq; exact .inl rfl, Turn.refl _ _⟩)
     have hgw : Wr.heap.size ≤ g11 := hgl.1
     clear hlen hsl hb15 hbk o0 o2 o3 h99 h100 h101 hI HOUT H11 HMr BZr BZ11 HT11 HZ11 HOW HB11 hgl
     go_wp2_with fail
     go_loopw [11, 13, 101] (fun out _ iv w3 => EncI c w15 g11 Wr.heap.size out iv w3) (fun _ _ iv _ => (6 - intOf iv).toNat)
     case atStart => exact HST.out _ rfl
     case round =>
      clear HST
      obtain ⟨k, hk, rfl, hown, hown0, hTn⟩ := hrel
      have hkc : k = 6 ∨ k < 6 := by omega
      rcases hkc with e | hlt
      ·subst e
       have hd : decide ((6 : Int) < 6) = false := by decide
       have hlen : 3 + preL c 6 = ([78, 87, 1] ++ rowsB c).length := by rw [preL_all]; simp; omega
       rw [preB_all, hlen] at hown
       have hcl : ([78, 87, 1] ++ rowsB c).length < 1000000 := by have := HLE.out; simp; omega
       have hlow := HLOW.out _ hTn
       have HS := Lib.hid (cseal_ok ([78, 87, 1] ++ rowsB c) u11 wr (HTr.out.below hlow) (own_rd hown) (rowsB_lt HH.out) hcl (by simp))
       have HBL := Lib.hid (HBr.out.trans (hlow.mono HBr.out.size))
       clear hown hcl hlen hTn hown0 hlow HLOW HROW
       rw [show (((6 : Nat)) : Int) = 6 from rfl]
       go_wp2_with fail
       refine HS.out.mono ?_; rintro e w2 ⟨v2, rfl, h2, hb2⟩
       have hle := HBL.out.size
       have R := Lib.hid (show w2.ownsRow w.heap.size 5 1 v2 (cfgB c).length (bts (cfgB c)) from h2.mono hle)
       have RB := Lib.hid (HBL.out.trans (hb2.mono hle))
       clear h2 hb2 HS
       go_wp2_with fail
       go_ret2
       exact ⟨_, rfl, R.out, RB.out⟩
      ·have hd : decide ((k : Int) < 6) = true := by simp; omega
       obtain ⟨r, hr⟩ : ∃ r, (rowsL c)[k]? = some r := ⟨_, List.getElem?_eq_getElem (by simpa [rowsL] using hlt)⟩
       obtain ⟨hrd, hat⟩ := rows_at (HROW.out wr hTn) k r hr
       obtain ⟨pv, qv, hv⟩ := hrd.form
       have hcell : wr.cell? ⟨g, k, none⟩ = some (.slice pv r.length qv) := by
        obtain ⟨⟨g', o', cap', e', _, hl'⟩, _⟩ := HROW.out wr hTn
        cases e'
        have := hl' k _ hat
        rw [hv, Nat.zero_add] at this; exact this
       rw [hv] at hrd
       obtain ⟨hi64, hr112⟩ := rows_i64 c HH.out k r hr
       have hb := rowB_len r
       have hple := preL_le c k r hr
       have := HLE.out
       have HPS := Lib.hid (preB_succ c k r hr)
       have HPL := Lib.hid (preL_succ c k r hr)
       have HR := Lib.hid (wrow_any r (.slice pv r.length qv) wr hrd (by omega) hi64)
       obtain ⟨m, hm⟩ : ∃ m, 3 + preL c k = m := ⟨_, rfl⟩
       have hm0 : 0 < m := by omega
       have hm1 : m ≤ 4000 := by omega
       rw [hm] at hown
       have HMM := Lib.hid hm
       obtain ⟨q, hq⟩ : ∃ q, (rowB r).length = q := ⟨_, rfl⟩
       have hq0 : 1 ≤ q ∧ q ≤ 4000 := by omega
       have HQ := Lib.hid hq
       obtain ⟨gb, cb, rfl, hgb1, hgb2⟩ := hown.form (by omega)
       have hgo := hown0 gb rfl
       have hcap6 : (k : Int) < 6 := by omega
       clear hr hat hv hrd hi64 hb hple this hm hq
       go_wp2_with fail
       refine HR.out.mono ?_; rintro e w2 ⟨v2, rfl, h2, hb2⟩
       rw [HQ.out] at h2
       obtain ⟨g2, c2, rfl, _, hg4⟩ := h2.form (by omega)
       have hown2 := own_below hown hb2
       have hTn2 := hTn.trans (Turn.of hb2)
       have hn2 := h2.cells (g := g2) rfl
       have hl2 : (bts (rowB r)).length = q * 1 := by rw [bts_len, HQ.out]; omega
       have h12 := bts_one (rowB r)
       obtain ⟨NW, hNW⟩ : ∃ NW, bts (rowB r) = NW := ⟨_, rfl⟩
       rw [hNW] at hn2 hl2 h12
       have HN := Lib.hid hNW
       have hbase : Wr.heap.size ≤ w2.heap.size := (HLOW.out _ hTn2).size
       have hs2 := hTn2.size
       clear hNW hown hb2 h2 HR hcell hown0
       go_wp2_with (first | (at_builtin; refine wpList_append_lies _ rfl (.tmp 105) (.tmp 107) 52 rfl Wr.heap.size 5 j0 (.int .u8 0) 1 1 Tryz.underlying52 (hj0 ()) hy0 hy1 hy2 rfl (by decide) _ m _ rfl hown2 ⟨g2, 0, none⟩ q c2 NW rfl hl2 hn2 h12 (by omega) (by unfold maxLen; omega) (by omega) hbase _ rfl ?_; intro g5 cap5 w5 h5 hg5 hor5 hg6))
       refine ⟨⟨k + 1, by omega, by simp, ?_, ?_, ?_⟩, by simp [intOf]; omega⟩
       ·rw [HPS.out, bts_app, HN.out, HPL.out, HQ.out, ← Nat.add_assoc, HMM.out]
        exact h5
       ·intro q' hq'
        cases hq'
        rcases hor5 with e | e
        ·cases e; exact hgo
        ·exact .inr (by rw [e]; exact hs2)
       ·refine ⟨hg5.os.trans hTn2.os, hg5.tape.trans hTn2.tape, hg5.output.trans hTn2.output, Nat.le_trans hTn2.size hg5.size, fun k' hk' hne' => (hg5.block k' (by omega) (fun ek => ?_)).trans (hTn2.block k' hk' hne')⟩
        cases ek
        rcases hgo with e | e
        ·exact hne' e
        ·have hk2 : gb < w15.heap.size := hk'
         omega
def inA (up : Bool) (ck : Int) (v : Value) : Array Value := #[.bool true, .bool up, .bool false, .int .i64 ck, .int .i64 0, .slice none 0 0, .int .i64 0, .int .i64 0, .int .i64 0, v]
theorem input_info : (Tryz.prog.info? 54).map (·.size) = some 10 := by kernel_rfl
theorem shown_info : (Tryz.prog.info? 49).map (·.size) = some 7 := by kernel_rfl
set_option maxRecDepth 100000 in
theorem thouse_ok (b : Nat) (x : Tw) (w : World) (h : BlockIs w b (twA x) 81) :
  Calls Tryz.prog 55 #[.pointer (some ⟨b, 0, none⟩)] w fun e w' => e = .returned (.agg #[.int .i64 x.c.fl, .int .i64 x.c.ca]) ∧ Below w.heap.size w w' := by
 have hR := BlockIs.new w #[.int .i64 0, .int .i64 0] 130
 have HB := ((Below.refl w.heap.size w).alloc (by exact Nat.le_refl _) (.cells #[.int .i64 0, .int .i64 0] 130))
 have hb := h.kept HB
 obtain ⟨W, hW⟩ : ∃ W, w.alloc (.cells #[.int .i64 0, .int .i64 0] 130) = W := ⟨_, rfl⟩
 rw [hW] at hb hR HB
 have HW := Lib.hid hW
 have hlt := h.lt
 clear hW h
 go_enter Tryz.func55, Tryz.ntmps55
 go_wp2_with fail
 rw [HW.out]
 have hd := (Below.refl W.heap.size W).drew
 refine wp_region_held_drew (S := fun W' => W'.cell? ⟨b, 37, none⟩ = some (.int .i64 x.c.fl) ∧ W'.cell? ⟨b, 38, none⟩ = some (.int .i64 x.c.ca)) (by kernel_rfl) ⟨hb.cell rfl, hb.cell rfl⟩ (fun hHeld => ?_)
 refine tkH 0 ?_
 try simp only [pt]
 refine tkH 1 ?_
 try simp only [pt]
 refine tkH 2 ?_
 try simp only [pt]
 refine tkH 3 ?_
 try simp only [pt]
 refine tkH 4 ?_
 try simp only [pt]
 refine tkH 5 ?_
 try simp only [pt]
 refine tkH 6 ?_
 try simp only [pt]
 refine tkH 7 ?_
 try simp only [pt]
 refine tkH 8 ?_
 try simp only [pt]
 refine tkH 9 ?_
 try simp only [pt]
 refine tkH 10 ?_
 try simp only [pt]
 refine tkH 11 ?_
 try simp only [pt]
 refine tkH 12 ?_
 try simp only [pt]
 have hne : ∀ i, (W.drew.setRow w.heap.size #[.int .i64 x.c.fl, .int .i64 x.c.ca]).cell? ⟨b, i, none⟩ = W.cell? ⟨b, i, none⟩ := fun i => World.cell?_of_block (setRow_other W.drew _ _ _ (by show b ≠ _; omega))
 have hR0 : BlockIs W.drew w.heap.size #[.int .i64 0, .int .i64 0] 130 := hR
 refine rdy [13] ?_
 refine' arC rfl (fun KK hKK => ?a13) AllReadyH.nil
 refine wp_store_row 130 (.tmp 2) (.tmp 15) rfl w.heap.size #[.int .i64 x.c.fl, .int .i64 x.c.ca] rfl rfl 130 _ hR0 house_info rfl (by simp [Value.oneCell']) ?_
 refine hKK.out _ _ (⟨(hne 37).trans (hb.cell rfl), (hne 38).trans (hb.cell rfl)⟩) (fun _ => ?_)
 clear hKK KK
 try simp only [pt]
 refine wpAnyH_done (by kernel_rfl) ?_ _
 have HR8 := Lib.hid (hR0.row #[.int .i64 x.c.fl, .int .i64 x.c.ca])
 have HB9 := Lib.hid (below_setRow (HB.drew) (Nat.le_refl _) #[.int .i64 x.c.fl, .int .i64 x.c.ca])
 clear hHeld hR hd HB hne hb hR0
 go_wp2_with fail
 exact bodyPost_ret (res_row rfl _ _ w.heap.size 130 _ _ rfl HR8.out Tryz.underlying130 rfl house_info) rfl ⟨rfl, HB9.out⟩
set_option maxRecDepth 100000 in
theorem tshown_ok (b : Nat) (x : Tw) (w : World) (p q : Option Addr) (c d : Nat) (h : BlockIs w b (twA x) 81) (ho : x.own = true) (hp : x.ha = .slice p 0 c) (hq : x.hi = .slice q 0 d) :
  Calls Tryz.prog 24 #[.pointer (some ⟨b, 0, none⟩), .int .i64 0] w fun e w' => ∃ p2 c2 q2 d2, e = .returned (.agg #[.int .i64 x.mode, .int .i64 x.age, .int .i64 0, .bool false, .slice none 0 0, .slice p2 0 c2, .slice q2 0 d2]) ∧ Below w.heap.size w w' := by
 have hR := BlockIs.new w #[.int .i64 0, .int .i64 0, .int .i64 0, .bool false, .slice none 0 0, .slice none 0 0, .slice none 0 0] 49
 have HB := ((Below.refl w.heap.size w).alloc (by exact Nat.le_refl _) (.cells #[.int .i64 0, .int .i64 0, .int .i64 0, .bool false, .slice none 0 0, .slice none 0 0, .slice none 0 0] 49))
 have hb := h.kept HB
 obtain ⟨W, hW⟩ : ∃ W, w.alloc (.cells #[.int .i64 0, .int .i64 0, .int .i64 0, .bool false, .slice none 0 0, .slice none 0 0, .slice none 0 0] 49) = W := ⟨_, rfl⟩
 rw [hW] at hb hR HB
 have HW := Lib.hid hW
 have hlt := h.lt
 have c74 : W.cell? ⟨b, 74, none⟩ = some (.bool true) := hb.cell (by rw [← ho]; rfl)
 have HSS := Lib.hid (show ∀ W', Below W.heap.size W W' → W'.cell? ⟨b, 80, none⟩ = some (.int .i64 x.mode) ∧ W'.cell? ⟨b, 81, none⟩ = some (.int .i64 x.age) ∧ W'.cell? ⟨b, 83, none⟩ = some (.slice p 0 c) ∧ W'.cell? ⟨b, 84, none⟩ = some (.slice q 0 d) from fun W' hh => ⟨(hb.kept hh).cell rfl, (hb.kept hh).cell rfl, (hb.kept hh).cell (by rw [← hp]; rfl), (hb.kept hh).cell (by rw [← hq]; rfl)⟩)
 have HX := Lib.hid hR
 clear hW h hb hp hq ho hR
 go_enter Tryz.func24, Tryz.ntmps24
 go_upto_region 1 with fail
 rw [HW.out]
 go_upto_region 3 with fail
 have hd := (Below.refl W.heap.size W).drew
 have hltR := HX.out.lt
 refine wp_region_held_drew (S := fun W' => W'.cell? ⟨b, 80, none⟩ = some (.int .i64 x.mode) ∧ W'.cell? ⟨b, 81, none⟩ = some (.int .i64 x.age) ∧ W'.cell? ⟨b, 83, none⟩ = some (.slice p 0 c) ∧ W'.cell? ⟨b, 84, none⟩ = some (.slice q 0 d)) (by kernel_rfl) (HSS.out _ hd) (fun hHeld => ?_)
 refine tkH 0 ?_
 try simp only [pt]
 refine tkH 1 ?_
 try simp only [pt]
 refine tkH 2 ?_
 try simp only [pt]
 refine tkH 3 ?_
 try simp only [pt]
 refine tkH 4 ?_
 try simp only [pt]
 refine tkH 5 ?_
 try simp only [pt]
 refine tkH 6 ?_
 try simp only [pt]
 refine tkH 7 ?_
 try simp only [pt]
 refine tkH 8 ?_
 try simp only [pt]
 refine tkH 9 ?_
 try simp only [pt]
 refine tkH 10 ?_
 try simp only [pt]
 refine tkH 11 ?_
 try simp only [pt]
 refine tkH 12 ?_
 try simp only [pt]
 refine tkH 13 ?_
 try simp only [pt]
 refine tkH 14 ?_
 try simp only [pt]
 refine tkH 15 ?_
 try simp only [pt]
 refine rdy [16] ?_
 refine' arC rfl (fun KK hKK => ?a16) AllReadyH.nil
 go_simp
 refine (waiting_ok p q c d _).mono ?_; rintro e w4 ⟨p2, c2, q2, d2, rfl, hb4⟩; have hB4 := hd.trans (hb4.mono hd.size)
 refine hKK.out _ _ (HSS.out _ hB4) (fun _ => ?_)
 clear hKK KK
 try simp only [pt]
 refine tkH 17 ?_
 try simp only [pt]
 have hR4 := HX.out.kept hB4
 have hne : ∀ i, (w4.setRow w.heap.size #[.int .i64 x.mode, .int .i64 x.age, .int .i64 0, .bool false, .slice none 0 0, .slice p2 0 c2, .slice q2 0 d2]).cell? ⟨b, i, none⟩ = w4.cell? ⟨b, i, none⟩ := fun i => World.cell?_of_block (setRow_other w4 _ _ _ (by show b ≠ _; omega))
 obtain ⟨k0, k1, k2, k3⟩ := HSS.out _ hB4
 refine rdy [18] ?_
 refine' arC rfl (fun KK hKK => ?a18) AllReadyH.nil
 refine wp_store_row 49 (.tmp 4) (.tmp 32) rfl w.heap.size #[.int .i64 x.mode, .int .i64 x.age, .int .i64 0, .bool false, .slice none 0 0, .slice p2 0 c2, .slice q2 0 d2] rfl rfl 49 _ hR4 shown_info rfl (by simp [Value.oneCell']) ?_
 refine hKK.out _ _ (⟨(hne 80).trans k0, (hne 81).trans k1, (hne 83).trans k2, (hne 84).trans k3⟩) (fun _ => ?_)
 clear hKK KK
 try simp only [pt]
 refine wpAnyH_done (by kernel_rfl) ?_ _
 have HR8 := Lib.hid (hR4.row #[.int .i64 x.mode, .int .i64 x.age, .int .i64 0, .bool false, .slice none 0 0, .slice p2 0 c2, .slice q2 0 d2])
 have HB9 := Lib.hid (below_setRow (HB.trans (hB4.mono HB.size)) (Nat.le_refl _) #[.int .i64 x.mode, .int .i64 x.age, .int .i64 0, .bool false, .slice none 0 0, .slice p2 0 c2, .slice q2 0 d2])
 clear hHeld hd HB hne hR4 k0 k1 k2 k3 HSS HX hb4 hB4 c74
 go_wp2_with fail
 exact bodyPost_ret (res_row rfl _ _ w.heap.size 49 _ _ rfl HR8.out Tryz.underlying49 rfl shown_info) rfl ⟨_, _, _, _, rfl, HB9.out⟩
end Go.Proofs.YtfnifgppblbjhaaGreatDoor
