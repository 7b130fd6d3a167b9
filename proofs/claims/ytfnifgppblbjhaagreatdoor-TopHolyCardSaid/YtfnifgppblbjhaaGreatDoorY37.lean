/- Part of the proof of TopHoly. -/
import Derived.Test.YtfnifgppblbjhaaGreatDoorY01
import Derived.Test.YtfnifgppblbjhaaGreatDoorY33
import Derived.Test.YtfnifgppblbjhaaGreatDoorY36
namespace Go.Proofs.YtfnifgppblbjhaaGreatDoor
set_option maxHeartbeats 8000000
open Go Go.RowKit Go.Shelf Go.Sort
attribute [local go_sem] Oper.semAt_some
set_option linter.unusedVariables false
set_option linter.unusedSimpArgs false
theorem keeps_low {W W' : World} (h : Below W.heap.size W W') : KeepsOthers W W' := ⟨h.size, fun k o hk _ => (h.block k (Array.getElem?_eq_some_iff.1 hk).1).trans hk⟩
theorem low_putObj {n : Nat} {w W : World} {l : Nat} (h : Below n w W) (hl : n ≤ l) (o : Obj) : Below n w (W.putObj l o) :=
 ⟨h.os, h.tape, h.output, by simpa [World.putObj] using h.size, fun k hk => (World.putObj_heap_other (by omega)).trans (h.block k hk)⟩
theorem KB.b {be g : Nat} {w : World} (hb : be < w.heap.size) (hg : g < w.heap.size) (W : World) (l : Nat) (o o' : Obj) (hl : w.heap.size ≤ l) : KB be g W (W.putObj l o') :=
 ⟨by simp [World.putObj], World.putObj_heap_other (by omega), World.putObj_heap_other (by omega)⟩
def RvI (w : World) (bv bo B : Nat) (v : Value) (l : List Sp) (m : Int) (xs : List Int) (pre : List Nat) (W : World) : Prop :=
 ∃ out n, (resK l m xs pre.length).length = n ∧ BlockIs W bo #[out] 260 ∧ W.ownsRow B 264 4 out n (spC (resK l m xs pre.length)) ∧ BlockIs W bv #[v] 260 ∧ B ≤ W.heap.size
theorem span_info3 : (Tryz.prog.info? 264).map (fun i => (i.zero, i.size, i.bytes)) = some (some (.agg #[.int .i64 0, .int .i64 0, .int .i64 0, .int .i64 0]), 4, 32) := by kernel_rfl
theorem resK_len (l : List Sp) (m : Int) (xs : List Int) : ∀ k, (resK l m xs k).length ≤ k
 | 0 => Nat.le_refl _
 | k + 1 => by
  have ih := resK_len l m xs k
  show (stepR l (resK l m xs k) m _ _).length ≤ k + 1
  unfold stepR
  split
  ·split
   ·split
    ·rename_i s hs _
     have : (resK l m xs k) ≠ [] := by intro e; rw [e] at hs; cases hs
     have := List.length_pos_iff.2 this
     simp; omega
    ·simp; omega
   ·simp
  ·omega
theorem AtP.no {l : List Sp} {t i : Int} (h : AtP l t i) (hc : cov l t = false) : i = -1 := by
 rcases h with ⟨e, _⟩ | ⟨k, hk, _, hi⟩
 ·exact e
 ·rw [cov_iff.2 ⟨_, List.getElem_mem hk, inS_iff.1 hi⟩] at hc; cases hc
theorem AtP.yes {l : List Sp} {t i : Int} (h : AtP l t i) (hc : cov l t = true) : ∃ k : Nat, k < l.length ∧ i = (k : Int) := by
 rcases h with ⟨_, e⟩ | ⟨k, hk, e, _⟩
 ·rw [e] at hc; cases hc
 ·exact ⟨k, hk, e⟩
theorem snoc_cases (l : List Sp) : l = [] ∨ ∃ ini s, l = ini ++ [s] := by
 rcases List.eq_nil_or_concat l with h | ⟨ini, s, h⟩
 ·exact .inl h
 ·exact .inr ⟨ini, s, by simpa using h⟩
theorem own_slice {w : World} {base size n : Nat} {e : TypeId} {v : Value} {xs : List Value} (h : w.ownsRow base e size v n xs) : ∃ p c, v = .slice p n c := by
 rcases h.2 with ⟨e1, e2⟩ | ⟨g, cap, cur, e1, _⟩
 ·exact ⟨none, 0, by rw [e1, e2]⟩
 ·exact ⟨_, _, e1⟩
theorem sp_new (W : World) (v0 v1 v2 v3 : Value) : ∀ j u, ([v0, v1, v2, v3] : List Value)[j]? = some u → (W.alloc (.cells #[v0, v1, v2, v3] 264)).cell? ((⟨W.heap.size, 0, none⟩ : Addr).add j) = some u := by
 intro j u hj
 have b := BlockIs.new W #[v0, v1, v2, v3] 264
 rw [Addr.add_mid, Nat.zero_add]
 exact b.cell (by simpa using hj)
theorem spC_app (l k : List Sp) : spC (l ++ k) = spC l ++ spC k := by unfold spC; rw [List.flatMap_append]
theorem own_put {W : World} {base g n cap : Nat} {ini : List Sp} {s : Sp} {y : Int} (h : W.ownsRow base 264 4 (.slice (some ⟨g, 0, none⟩) n cap) n (spC (ini ++ [s]))) :
  (W.setCell ⟨g, ini.length * 4 + 1, none⟩ (.int .i64 y)).ownsRow base 264 4 (.slice (some ⟨g, 0, none⟩) n cap) n (spC (ini ++ [⟨s.a, y, s.m, s.p⟩])) := by
 obtain ⟨hl0, ⟨hbad, _⟩ | ⟨g', cap', cur, he, hge, hcur, hcap, hcm, hcs, htk⟩⟩ := h
 ·cases hbad
 ·cases he
  refine ⟨by rw [spC_len] at hl0 ⊢; simpa using hl0, .inr ⟨g, cap, cur.setIfInBounds (ini.length * 4 + 1) (.int .i64 y), rfl, hge, BlockIs.set (show BlockIs W g cur 264 from hcur) (ini.length * 4 + 1) (.int .i64 y), hcap, hcm, by simpa using hcs, ?_⟩⟩
  rw [Array.toList_setIfInBounds, List.take_set, htk, spC_app, spC_app, List.set_append_right _ _ (by rw [spC_len]; omega), spC_len, show ini.length * 4 + 1 - ini.length * 4 = 1 by omega]
  rfl
theorem own_spans {W : World} {base n : Nat} {v : Value} {xs : List Value} (h : W.ownsRow base 264 4 v n xs) {g : Nat} (e : v.ownBlock = some g) : ∃ cur, W.heap[g]? = some (.cells cur 264 (0, 0)) := by
 rcases h.2 with ⟨e1, _⟩ | ⟨g', cap, cur, e1, e2, e3, _⟩
 ·subst e1; simp [Value.ownBlock] at e
 ·subst e1; simp [Value.ownBlock] at e; subst e; exact ⟨cur, e3⟩
theorem RvI.grown {w A C : World} {bv bo B : Nat} {v : Value} {l : List Sp} {m : Int} {xs : List Int} {pre : List Nat} {row : Option Nat} (h : RvI w bv bo B v l m xs pre A) (hg : A.grownBy C row) (hr : ∀ r, row = some r → ∃ o : Obj, A.heap[r]? = some o ∧ o.isCells = false) : RvI w bv bo B v l m xs pre C := by
 obtain ⟨out, n, h0, h1, h2, h3, h4⟩ := h
 refine ⟨out, n, h0, h1.grown hg hr, h2.kept hg ?_, h3.grown hg hr, Nat.le_trans h4 hg.size⟩
 cases hq : out.ownBlock with
 | none => exact .inl rfl
 | some q =>
  right
  intro e
  obtain ⟨o, ho, hc⟩ := hr q e.symm
  obtain ⟨cur, e3⟩ := own_spans h2 hq
  rw [e3] at ho; cases ho; simp [Obj.isCells] at hc
theorem RvI.store {w W : World} {bv bo B be : Nat} {v : Value} {l : List Sp} {m : Int} {xs : List Int} {pre : List Nat} (h : RvI w bv bo B v l m xs pre W) (h1 : bo ≠ be) (h2 : bv ≠ be) (h3 : be < B) (u : Value) : RvI w bv bo B v l m xs pre (W.setCell ⟨be, 0, none⟩ u) := by
 obtain ⟨out, n, g0, g1, g2, g3, g4⟩ := h
 refine ⟨out, n, g0, g1.other (a := ⟨be, 0, none⟩) h1 u, ?_, g3.other (a := ⟨be, 0, none⟩) h2 u, by simpa [World.setCell] using g4⟩
 exact ((Turn.refl (fun k => k = be) W).setCell rfl 0 u).own g2 (fun k hk => by have := (g2.lt k hk).1; omega)
theorem RvI.below {w W W' : World} {bv bo B : Nat} {v : Value} {l : List Sp} {m : Int} {xs : List Int} {pre : List Nat} (h : RvI w bv bo B v l m xs pre W) (hb : Below W.heap.size W W') : RvI w bv bo B v l m xs pre W' :=
 h.grown (grown_below hb (Nat.le_refl _) none) (fun r e => by cases e)
set_option maxRecDepth 100000 in
theorem sresolve_ok (l : List Sp) (m : Int) (v : Value) (w : World) (hv : SpRow w v l) (h0 : 0 < l.length) (hn : l.length ≤ 100) (hl : ∀ s ∈ l, s.a < s.b) (hm : ∀ s ∈ l, s.m = m) : Calls Tryz.prog 201 #[v] w fun e w' => ∃ out R n, e = .returned (.tuple #[out, .int .i64 0]) ∧ R = resK l m (setOf (endsOf l)) ((setOf (endsOf l)).length - 1) ∧ R.length = n ∧ w'.ownsRow w.heap.size 264 4 out n (spC R) ∧ Below w.heap.size w w' := by
 obtain ⟨i0, hi0, hz0, hz1, hz2⟩ := info_hid span_info3
 have hb0 := (Below.refl w.heap.size w).alloc (Nat.le_refl _) (.cells #[v] 260)
 have hk0 := BlockIs.new w #[v] 260
 have HV := Lib.hid hv
 have HL := Lib.hid hl
 have HMM := Lib.hid hm
 have hxl : (setOf (endsOf l)).length ≤ 200 := by have h1 := setOf_len (endsOf l); rw [ends_len] at h1; omega
 obtain ⟨p, cap, rfl, hrow⟩ := hv
 have hx0 : decide (500 < (l.length : Int)) = false := by simp; omega
 have hc0 := Lib.hid (scont_odd l (.slice p l.length cap) _ (HV.out.below hb0) hl (by omega))
 have HK0 := Lib.hid hk0
 have HB0 := Lib.hid hb0
 have y0 := hk0.cell (i := 0) (v := .slice p l.length cap) rfl
 clear hrow hl hm hk0 hb0
 refine (callsIn_wide (n := 5)).1 ?_
 refine callsIn_of_wp_marks Tryz.func201 rfl trivial ?_ rfl
 simp only [Tryz.ntmps201, List.size_toArray, List.length_cons, List.length_nil, Nat.reduceAdd, Nat.reduceSub, Array.replicate_succ, Array.replicate_zero, List.push_toArray, List.append_toArray, List.nil_append, List.cons_append]
 refine wpIn_wide.2 ?_
 go_wp2_with fail
 refine (hc0.out).mono ?_; rintro e w1 ⟨rfl, hb1⟩
 have hk1 := HK0.out.kept hb1
 have hB1 := HB0.out.trans (hb1.mono HB0.out.size)
 have hk2 := hk1.alloc (.cells #[.slice none 0 0] 260)
 have hB2 := hB1.alloc hB1.size (.cells #[.slice none 0 0] 260)
 have ho2 := BlockIs.new w1 #[.slice none 0 0] 260
 have y1 := hk2.cell (i := 0) (v := .slice p l.length cap) rfl
 have hlt1 := hk1.lt
 obtain ⟨W2, hW2⟩ : ∃ W2, w1.alloc (.cells #[.slice none 0 0] 260) = W2 := ⟨_, rfl⟩
 rw [hW2] at hk2 hB2 ho2 y1
 have HW2 := Lib.hid hW2
 have HK2 := Lib.hid hk2
 have HB2 := Lib.hid hB2
 have HO2 := Lib.hid ho2
 have hP := Lib.hid (spieces_ok l (.slice p l.length cap) W2 (HV.out.below hB2) h0 (by omega))
 clear hb1 hk1 hB1 hk2 hB2 ho2 hW2 HK0 HB0 y0 hc0
 go_upto_region 5 with fail
 rw [HW2.out]
 go_wp2_with fail
 refine (hP.out).mono ?_; rintro e w3 ⟨g, gc, rfl, hE3, hH3, hg1, hg2, hb3⟩
 have hW3 := HB2.out.trans (hb3.mono HB2.out.size)
 have hk3 := HK2.out.kept hb3
 have ho3 := HO2.out.kept hb3
 have hs3 := hb3.size
 have hlo := HO2.out.lt
 have hlk := HK2.out.lt
 have hls := HB2.out.size
 have hltE := hE3.lt
 have HIT := Lib.hid (spiece_seq 4 (by omega) W2.heap.size g gc (setOf (endsOf l)) w3 hE3 hH3 hg2 (by omega))
 have HST := Lib.hid (show RvI w w.heap.size w1.heap.size w3.heap.size (.slice p l.length cap) l m (setOf (endsOf l)) [] w3 from ⟨_, 0, rfl, ho3, World.ownsRow_nil _ _ _ _, hk3, Nat.le_refl _⟩)
 have HW3 := Lib.hid hW3
 clear hE3 hH3 hb3 hk3 ho3 hW3 HW2 HK2 HB2 HO2 hP y1
 have HRI := Lib.hid (show ∀ k, k < (setOf (endsOf l)).length → ∀ s ∈ resK l m (setOf (endsOf l)) k, s.m = m ∧ s.p = 0 from fun k hk s hs => ⟨((resK_inv HL.out k hk).1 s hs).1, ((resK_inv HL.out k hk).1 s hs).2.1⟩)
 obtain ⟨xs, hxs⟩ : ∃ xs, setOf (endsOf l) = xs := ⟨_, rfl⟩
 rw [hxs] at HIT HST hxl HRI
 have HXS := Lib.hid hxs
 clear hxs
 go_wp2_with fail
 refine (wpIn_wide (n := 5)).1 ?_
 refine' range_own (F := Fence.wide) (n := 5) rfl (by omega) (gf := 258) (lb := #[.pointer (some ⟨W2.heap.size, 0, none⟩)]) rfl trivial (enters_of Tryz.func258 (by kernel_rfl) rfl)
  HIT.out KB.t (fun W ll o o' hll x y z => KB.b hltE hg2 W ll o o' hll) (Below.refl _ _) (fun _ => rfl) hltE
  (fun pre W => RvI w w.heap.size w1.heap.size w3.heap.size (.slice p l.length cap) l m xs pre W ∧ Below w.heap.size w W)
  (fun c pre W => False ∧ Below w.heap.size w W)
  ?own ?ownx ?st ?start _ ?assign ?body ?done ?stop
 case own => exact OwnFrom.and (Own.from (fun s A B row hs hg hr => hs.grown hg hr) _) (ownFrom_below (Nat.le_refl _) (by have := HW3.out.size; omega))
 case ownx => exact fun c => OwnFrom.and (Own.from (fun s A B row hs hg hr => hs) _) (ownFrom_below (Nat.le_refl _) (by have := HW3.out.size; omega))
 case st => exact fun pre W u hs => ⟨hs.1.store (by omega) (by omega) (by omega) u, hs.2.setCell (p := ⟨W2.heap.size, 0, none⟩) (by show w.heap.size ≤ W2.heap.size; omega) _⟩
 case start => exact ⟨HST.out, HW3.out⟩
 case assign =>
  intro l x W K hK
  gi_wp2
  exact hK
 case body =>
  rintro ll pre k W ⟨hI, hB⟩ ⟨rfl, hk⟩
  obtain ⟨out, n, hRn, hO, hR, hA, hs⟩ := hI
  simp only [List.length_range] at hRn hR
  have hrowW := Lib.hid (HV.out.below hB)
  have yv : W.cell? ⟨w.heap.size, 0, none⟩ = some (.slice p l.length cap) := hA.cell rfl
  obtain ⟨t, ht⟩ : ∃ t, xs.getD k 0 = t := ⟨_, rfl⟩
  obtain ⟨y, hy⟩ : ∃ y, xs.getD (k + 1) 0 = y := ⟨_, rfl⟩
  have hstep : resK l m xs (k + 1) = stepR l (resK l m xs k) m t y := by rw [← ht, ← hy]; rfl
  have hmp := HRI.out k (by omega)
  obtain ⟨R, hRR⟩ : ∃ R, resK l m xs k = R := ⟨_, rfl⟩
  rw [hRR] at hRn hR hstep hmp
  rw [List.getD_eq_getElem?_getD] at ht hy
  rw [ht, hy]
  have hRk : R.length ≤ k := by rw [← hRR]; exact resK_len _ _ _ _
  have HSTEP0 := Lib.hid hstep
  have HMP := Lib.hid hmp
  have HRR := Lib.hid hRn
  have hR := Lib.hid hR
  clear ht hy hRR hstep hmp
  have hn200 : n ≤ 200 := by omega
  cases hcv : cov l t with
  | false =>
   have HSTEP := Lib.hid (show resK l m xs (k + 1) = R by rw [HSTEP0.out]; unfold stepR; rw [if_neg (by simp [hcv])])
   have HCV := Lib.hid hcv
   clear hcv hRn
   gi_wp2_with (refine ⟨trivial, ?_⟩; gi_at_call 240; refine (CallsIn.inRound ll (callsIn_wide.2 (sweight_ok l t (.slice p l.length cap) _ hrowW.out (by omega)))).mono ?_; rintro e W5 ⟨⟨i, rfl, hi⟩, hb5⟩; obtain rfl := AtP.no hi HCV.out)
   refine ⟨keeps_low hb5, KB.of (by omega) (by omega) hb5, ?_, hB.trans (hb5.mono hB.size)⟩
   refine RvI.below ⟨out, n, ?_, hO, ?_, hA, hs⟩ hb5
   ·rw [List.length_append, List.length_range, List.length_singleton, HSTEP.out]; exact HRR.out
   ·rw [List.length_append, List.length_range, List.length_singleton, HSTEP.out]; exact hR.out
  | true =>
   have HCV := Lib.hid hcv
   clear hcv hRn
   rcases snoc_cases R with hnil | ⟨ini, s, hsn⟩
   ·have hn0 : n = 0 := by rw [← HRR.out, hnil]; rfl
    have HSTEP := Lib.hid (show resK l m xs (k + 1) = R ++ [⟨t, y, m, 0⟩] by rw [HSTEP0.out, hnil]; unfold stepR; rw [if_pos HCV.out]; rfl)
    obtain ⟨po, co, hout⟩ := own_slice hR.out
    have HOUT := Lib.hid hout
    have hO' := hO
    rw [hout, hn0] at hO'
    clear hout hnil hn0
    gi_wp2_with (refine ⟨trivial, ?_⟩; gi_at_call 240; refine (CallsIn.inRound ll (callsIn_wide.2 (sweight_ok l t (.slice p l.length cap) _ hrowW.out (by omega)))).mono ?_; rintro e W5 ⟨⟨i, rfl, hi⟩, hb5⟩; obtain ⟨kb, hkb, rfl⟩ := AtP.yes hi HCV.out; have yo5 : W5.cell? ⟨w1.heap.size, 0, none⟩ = some (.slice po 0 co) := (hO'.kept hb5).cell rfl)
    have hkb0 : (0 : Int) ≤ (kb : Int) := by omega
    refine wpIn_region_drew (S := fun _ => True) (by kernel_rfl) (by kernel_rfl) (by rintro ⟨a, w, h⟩; exact h) trivial (fun hHeld => ?_)
    refine tkH 0 ?_
    try simp only [pt]
    refine tkH 1 ?_
    try simp only [pt]
    refine tkH 2 ?_
    try simp only [pt]
    refine tkU 3 ?_
    try simp only [pt]
    refine tkU 4 ?_
    try simp only [pt]
    refine tkU 5 ?_
    try simp only [pt]
    refine tkU 6 ?_
    try simp only [pt]
    refine tkU 7 ?_
    try simp only [pt]
    refine tkU 8 ?_
    try simp only [pt]
    refine tkU 9 ?_
    try simp only [pt]
    refine tkH 10 ?_
    try simp only [pt]
    refine tkH 11 ?_
    try simp only [pt]
    refine tkU 12 ?_
    try simp only [pt]
    refine tkU 13 ?_
    try simp only [pt]
    refine tkU 14 ?_
    try simp only [pt]
    refine tkU 15 ?_
    try simp only [pt]
    refine tkU 16 ?_
    try simp only [pt]
    refine tkU 17 ?_
    try simp only [pt]
    refine tkU 18 ?_
    try simp only [pt]
    refine tkU 19 ?_
    try simp only [pt]
    refine tkU 20 ?_
    try simp only [pt]
    refine tkU 21 ?_
    try simp only [pt]
    refine tkU 22 ?_
    try simp only [pt]
    refine tkH 23 ?_
    try simp only [pt]
    refine wpAnyH_done (by kernel_rfl) ?_ _
    have hb6 := hb5.drew
    have yo6 : W5.drew.cell? ⟨w1.heap.size, 0, none⟩ = some (.slice po 0 co) := yo5
    obtain ⟨W6, hW6⟩ : ∃ W6, W5.drew = W6 := ⟨_, rfl⟩
    rw [hW6] at hb6 yo6
    rw [hW6]
    clear hHeld hb5 yo5 hW6 hO'
    gi_wp2
    clear yo6
    have hO6 := hO.kept hb6
    have hA6 := hA.kept hb6
    have hs6 := hb6.size
    have yo6 : W6.drew.cell? ⟨w1.heap.size, 0, none⟩ = some out := hO6.cell rfl
    have hB6x := hB.trans (hb6.mono hB.size)
    have HR6 := Lib.hid (own_below hR.out hb6)
    obtain ⟨bl, cl, el, _, _, ylw, _⟩ := HV.out.at hkb
    cases el
    rw [HMM.out _ (List.getElem_mem hkb)] at ylw
    have hblt : bl < w.heap.size := World.block_lt_of_cell? w _ ylw
    have yl6 : W6.cell? ⟨bl, kb * 4 + 2, none⟩ = some (.int .i64 m) := (hB6x.cell (p := ⟨bl, kb * 4 + 2, none⟩) hblt).trans ylw
    have hib : (kb : Int) < (l.length : Int) := by omega
    have KA := hA6.drew.alloc (.cells #[.int .i64 t, .int .i64 y, .int .i64 m, .int .i64 0] 264)
    have KO := hO6.drew.alloc (.cells #[.int .i64 t, .int .i64 y, .int .i64 m, .int .i64 0] 264)
    have hbl : bl < w.heap.size := hblt
    have KL : (W6.drew.alloc (.cells #[.int .i64 t, .int .i64 y, .int .i64 m, .int .i64 0] 264)).cell? ⟨bl, kb * 4 + 2, none⟩ = some (.int .i64 m) := (((Below.refl _ W6).drew.alloc (Nat.le_refl _) _).cell (p := ⟨bl, kb * 4 + 2, none⟩) (by show bl < W6.heap.size; omega)).trans yl6
    have nob : ∀ q, out.ownBlock = some q → w3.heap.size ≤ q := fun q hq => (HR6.out.lt q hq).1
    have KV7 : ∀ {w7 : World}, (W6.drew.alloc (.cells #[.int .i64 t, .int .i64 y, .int .i64 m, .int .i64 0] 264)).grownBy w7 out.ownBlock → BlockIs w7 w.heap.size #[.slice (some ⟨bl, 0, none⟩) l.length cap] 260 := fun hg => (hg.block _ KA.lt (fun e => by have := nob _ e.symm; omega)).trans KA
    have KO7 : ∀ {w7 : World}, (W6.drew.alloc (.cells #[.int .i64 t, .int .i64 y, .int .i64 m, .int .i64 0] 264)).grownBy w7 out.ownBlock → BlockIs w7 w1.heap.size #[out] 260 := fun hg => (hg.block _ KO.lt (fun e => by have := nob _ e.symm; omega)).trans KO
    have KL7 : ∀ {w7 : World}, (W6.drew.alloc (.cells #[.int .i64 t, .int .i64 y, .int .i64 m, .int .i64 0] 264)).grownBy w7 out.ownBlock → w7.cell? ⟨bl, kb * 4 + 2, none⟩ = some (.int .i64 m) := fun hg => (World.cell?_of_block (a := ⟨bl, kb * 4 + 2, none⟩) (hg.block bl (by simp; omega) (fun e => by have := nob _ e.symm; omega))).trans KL
    have KS7 : ∀ {w7 : World}, (W6.drew.alloc (.cells #[.int .i64 t, .int .i64 y, .int .i64 m, .int .i64 0] 264)).grownBy w7 out.ownBlock → ∀ u, (w7.setCell ⟨w1.heap.size, 0, none⟩ u).cell? ⟨w.heap.size, 0, none⟩ = some (.slice (some ⟨bl, 0, none⟩) l.length cap) ∧ (w7.setCell ⟨w1.heap.size, 0, none⟩ u).cell? ⟨bl, kb * 4 + 2, none⟩ = some (.int .i64 m) := fun hg u =>
     ⟨((KV7 hg).other (a := ⟨w1.heap.size, 0, none⟩) (by show w.heap.size ≠ w1.heap.size; omega) u).cell rfl, by rw [World.cell?_setCell_other _ _ _ _ (by intro e; have h3 := congrArg Addr.block e; dsimp only at h3; omega)]; exact KL7 hg⟩
    have FIN : ∀ (g7 cap7 : Nat) (w7 : World), w7.ownsRow w3.heap.size 264 4 (.slice (some ⟨g7, 0, none⟩) (n + 1) cap7) (n + 1) (spC R ++ [.int .i64 t, .int .i64 y, .int .i64 m, .int .i64 0]) → (W6.drew.alloc (.cells #[.int .i64 t, .int .i64 y, .int .i64 m, .int .i64 0] 264)).grownBy w7 out.ownBlock →
      KeepsOthers W (w7.setCell ⟨w1.heap.size, 0, none⟩ (.slice (some ⟨g7, 0, none⟩) (n + 1) cap7)) ∧ KB W2.heap.size g W (w7.setCell ⟨w1.heap.size, 0, none⟩ (.slice (some ⟨g7, 0, none⟩) (n + 1) cap7)) ∧ RvI w w.heap.size w1.heap.size w3.heap.size (.slice (some ⟨bl, 0, none⟩) l.length cap) l m xs (List.range k ++ [k]) (w7.setCell ⟨w1.heap.size, 0, none⟩ (.slice (some ⟨g7, 0, none⟩) (n + 1) cap7)) ∧ Below w.heap.size w (w7.setCell ⟨w1.heap.size, 0, none⟩ (.slice (some ⟨g7, 0, none⟩) (n + 1) cap7)) := by
     intro g7 cap7 w7 h7 hg7
     have hz7 := hg7.size
     rw [World.size_alloc] at hz7
     have hz7' : W6.heap.size + 1 ≤ w7.heap.size := hz7
     have RX := HR6.out.drew.alloc (.cells #[.int .i64 t, .int .i64 y, .int .i64 m, .int .i64 0] 264)
     have hbx := (hb6.drew).alloc hb6.size (.cells #[.int .i64 t, .int .i64 y, .int .i64 m, .int .i64 0] 264)
     have blk : ∀ q, q < w3.heap.size → q ≠ w1.heap.size → (w7.setCell ⟨w1.heap.size, 0, none⟩ (.slice (some ⟨g7, 0, none⟩) (n + 1) cap7)).heap[q]? = W.heap[q]? := fun q hq hne => by
      refine (Below.heap_setCell w7 _ _ q (fun e => hne e)).trans ((hg7.block q (by simp; omega) (fun e => by have := nob _ e.symm; omega)).trans ?_)
      exact hbx.block q (by omega)
     refine ⟨(keeps_low hbx).trans ((KeepsOthers.of_grownBy hg7 (fun j o e ho => ?_)).trans (KeepsOthers.setCell _ _ _)), ⟨by have : (w7.setCell ⟨w1.heap.size, 0, none⟩ (.slice (some ⟨g7, 0, none⟩) (n + 1) cap7)).heap.size = w7.heap.size := (by simp); omega, blk _ (by omega) (by omega), blk _ hg2 (by omega)⟩, ?_, ?_⟩
     ·obtain ⟨cur, hc⟩ := own_spans RX e
      rw [hc] at ho; cases ho; rfl
     ·refine ⟨_, n + 1, ?_, (KO7 hg7).set 0 _, ?_, (KV7 hg7).other (a := ⟨w1.heap.size, 0, none⟩) (by show w.heap.size ≠ w1.heap.size; omega) _, by simp; omega⟩
      ·rw [List.length_append, List.length_range, List.length_singleton, HSTEP.out]; simp [HRR.out]
      ·rw [List.length_append, List.length_range, List.length_singleton, HSTEP.out]
       have := ((Turn.refl (fun j => j = w1.heap.size) w7).setCell rfl 0 (.slice (some ⟨g7, 0, none⟩) (n + 1) cap7)).own h7 (fun j hj => by have := (h7.lt j hj).1; omega)
       unfold spC at this ⊢
       rw [List.flatMap_append]
       exact this
     ·have hB6 := hB.trans (hbx.mono hB.size)
      exact (hB6.grown hg7 hB6.size (fun j e => by have := nob j e; omega)).setCell (p := ⟨w1.heap.size, 0, none⟩) (by show w.heap.size ≤ w1.heap.size; omega) _
    refine wpIn_region_drew (S := (fun W' => W'.cell? ⟨w.heap.size, 0, none⟩ = some (.slice (some ⟨bl, 0, none⟩) l.length cap) ∧ W'.cell? ⟨bl, kb * 4 + 2, none⟩ = some (.int .i64 m))) (by kernel_rfl) (by kernel_rfl) (by rintro ⟨a, w, h⟩; exact h) ⟨hA6.cell rfl, yl6⟩ (fun hHeld => ?_)
    refine tkH 1 ?_
    try simp only [pt]
    refine tkH 2 ?_
    try simp only [pt]
    refine tkH 3 ?_
    try simp only [pt]
    refine tkH 4 ?_
    try simp only [pt]
    refine tkH 5 ?_
    try simp only [pt]
    refine tkH 6 ?_
    try simp only [pt]
    refine tkH 7 ?_
    try simp only [pt]
    refine tkH 8 ?_
    try simp only [pt]
    refine rdy [0, 9] ?_
    refine' arC rfl (fun KK hKK => ?xc0) (arC rfl (fun KK hKK => ?xc9) AllReadyH.nil)
    case xc0 =>
     go_simp
     refine' hKK.out _ _ ⟨hA6.cell rfl, yl6⟩ (fun _ => ?rca)
     clear hKK KK
     try simp only [pt]
     refine rdy [9] ?_
     refine' arC rfl (fun KK hKK => ?ca9) AllReadyH.nil
     go_simp
     refine' hKK.out _ _ ⟨KA.cell rfl, KL⟩ (fun _ => ?rca9)
     clear hKK KK
     try simp only [pt]
     refine rdy [10] ?_
     refine' arC rfl (fun KK hKK => ?ca10) AllReadyH.nil
     refine step_append_lies _ rfl (.tmp 59) (.tmp 68) 260 rfl w3.heap.size 264 i0 (.agg #[.int .i64 0, .int .i64 0, .int .i64 0, .int .i64 0]) 4 32 Tryz.underlying260 (hi0 ()) hz0 hz1 hz2 rfl (by decide) _ n _ rfl (HR6.out.drew.alloc _) ⟨W6.heap.size, 0, none⟩ 1 1 [.int .i64 t, .int .i64 y, .int .i64 m, .int .i64 0] rfl rfl (sp_new _ _ _ _ _) (by intro u hu; simp at hu; rcases hu with hu | hu | hu | hu <;> subst hu <;> rfl) (by omega) (by unfold maxLen; omega) (by omega) (by simp; omega) _ rfl ?_
     intro g7 cap7 w7 h7 hg7 hor7 hlt7
     refine hKK.out _ _ (⟨(KV7 hg7).cell rfl, KL7 hg7⟩) (fun _ => ?_)
     clear hKK KK
     try simp only [pt]
     have yo7 := (KO7 hg7).cell (i := 0) (v := out) rfl
     have zo7 := (KO7 hg7).free 0
     refine rdy [11] ?_
     refine' arC rfl (fun KK hKK => ?ca11) AllReadyH.nil
     go_simp
     refine hKK.out _ _ (KS7 hg7 _) (fun _ => ?_)
     clear hKK KK
     try simp only [pt]
     refine wpAnyH_done (by kernel_rfl) ?_ _
     clear yo7 zo7
     gi_wp2
     exact FIN g7 cap7 w7 h7 hg7
    case xc9 =>
     go_simp
     refine' hKK.out _ _ ⟨KA.cell rfl, KL⟩ (fun _ => ?rcb)
     clear hKK KK
     try simp only [pt]
     refine rdy [0] ?_
     refine' arC rfl (fun KK hKK => ?cb0) AllReadyH.nil
     have yob : (W6.alloc (.cells #[.int .i64 t, .int .i64 y, .int .i64 m, .int .i64 0] 264)).cell? ⟨w1.heap.size, 0, none⟩ = some out := (hO6.alloc (.cells #[.int .i64 t, .int .i64 y, .int .i64 m, .int .i64 0] 264)).cell rfl
     go_simp
     refine' hKK.out _ _ ⟨KA.cell rfl, KL⟩ (fun _ => ?rcb9)
     clear hKK KK
     try simp only [pt]
     refine rdy [10] ?_
     refine' arC rfl (fun KK hKK => ?cb10) AllReadyH.nil
     refine step_append_lies _ rfl (.tmp 59) (.tmp 68) 260 rfl w3.heap.size 264 i0 (.agg #[.int .i64 0, .int .i64 0, .int .i64 0, .int .i64 0]) 4 32 Tryz.underlying260 (hi0 ()) hz0 hz1 hz2 rfl (by decide) _ n _ rfl (HR6.out.drew.alloc _) ⟨W6.heap.size, 0, none⟩ 1 1 [.int .i64 t, .int .i64 y, .int .i64 m, .int .i64 0] rfl rfl (sp_new _ _ _ _ _) (by intro u hu; simp at hu; rcases hu with hu | hu | hu | hu <;> subst hu <;> rfl) (by omega) (by unfold maxLen; omega) (by omega) (by simp; omega) _ rfl ?_
     intro g7 cap7 w7 h7 hg7 hor7 hlt7
     refine hKK.out _ _ (⟨(KV7 hg7).cell rfl, KL7 hg7⟩) (fun _ => ?_)
     clear hKK KK
     try simp only [pt]
     have yo7 := (KO7 hg7).cell (i := 0) (v := out) rfl
     have zo7 := (KO7 hg7).free 0
     refine rdy [11] ?_
     refine' arC rfl (fun KK hKK => ?cb11) AllReadyH.nil
     go_simp
     refine hKK.out _ _ (KS7 hg7 _) (fun _ => ?_)
     clear hKK KK
     try simp only [pt]
     refine wpAnyH_done (by kernel_rfl) ?_ _
     clear yo7 zo7
     gi_wp2
     exact FIN g7 cap7 w7 h7 hg7
   ·obtain ⟨q, hq⟩ : ∃ q, ini.length = q := ⟨_, rfl⟩
    have hnq : n = q + 1 := by rw [← HRR.out, hsn]; simp [hq]
    have hsm := HMP.out s (by rw [hsn]; simp)
    have hlast : ∀ h, (ini ++ [s])[q]'h = s := fun h => by simp [← hq]
    have hR' : W.ownsRow w3.heap.size 264 4 out (ini ++ [s]).length (spC (ini ++ [s])) := by rw [← hsn, HRR.out]; exact hR.out
    obtain ⟨go, co, hout, d1, cb, cm, d2⟩ := (SpRow.own hR').at (k := q) (by simp; omega)
    rw [hlast] at cb cm
    rw [← hsn, HRR.out] at hout
    rw [hsm.1] at cm
    have zs := (own_there (by have h := hR.out; rw [hout] at h; exact h) q (by omega) 1 (by omega)).2
    have HOUT := Lib.hid hout
    have HSN := Lib.hid hsn
    have HSM := Lib.hid hsm
    have HQ := Lib.hid hq
    have hO' := hO
    rw [hout] at hO'
    have hqn : (n : Int) - 1 = (q : Int) := by omega
    have hqi : (q : Int) < (n : Int) := by omega
    have hq0 : (0 : Int) ≤ (q : Int) := by omega
    have hR2 := Lib.hid hR'
    have HNQ := Lib.hid hnq
    have hgo : go < W.heap.size := World.block_lt_of_cell? W _ cb
    clear d1 d2
    clear hout hsn hsm hlast hR' hq hnq
    gi_wp2_with (refine ⟨trivial, ?_⟩; gi_at_call 240; refine (CallsIn.inRound ll (callsIn_wide.2 (sweight_ok l t (.slice p l.length cap) _ hrowW.out (by omega)))).mono ?_; rintro e W5 ⟨⟨i, rfl, hi⟩, hb5⟩; obtain ⟨kb, hkb, rfl⟩ := AtP.yes hi HCV.out; have yo5 : W5.cell? ⟨w1.heap.size, 0, none⟩ = some (.slice (some ⟨go, 0, none⟩) n co) := (hO'.kept hb5).cell rfl)
    have hkb0 : (0 : Int) ≤ (kb : Int) := by omega
    have hB5x := hB.trans (hb5.mono hB.size)
    have hA5 := hA.kept hb5
    obtain ⟨bl, cl, el, _, _, ylw, _⟩ := HV.out.at hkb
    cases el
    rw [HMM.out _ (List.getElem_mem hkb)] at ylw
    have hblt : bl < w.heap.size := World.block_lt_of_cell? w _ ylw
    have yl5 : W5.cell? ⟨bl, kb * 4 + 2, none⟩ = some (.int .i64 m) := (hB5x.cell (p := ⟨bl, kb * 4 + 2, none⟩) hblt).trans ylw
    have hib : (kb : Int) < (l.length : Int) := by omega
    have cb5 : W5.cell? ⟨go, q * 4 + 1, none⟩ = some (.int .i64 s.b) := (hb5.cell (p := ⟨go, q * 4 + 1, none⟩) hgo).trans cb
    have cm5 : W5.cell? ⟨go, q * 4 + 2, none⟩ = some (.int .i64 m) := (hb5.cell (p := ⟨go, q * 4 + 2, none⟩) hgo).trans cm
    by_cases hst : s.b = t
    ·have he : (s.b == t) = true := by simpa using hst
     have HST := Lib.hid hst
     clear hst
     have HSTEP := Lib.hid (show resK l m xs (k + 1) = ini ++ [⟨s.a, y, m, 0⟩] by rw [HSTEP0.out, HSN.out]; unfold stepR; rw [if_pos HCV.out]; simp [HST.out])
     refine wpIn_region_drew (S := (fun W' => W'.cell? ⟨w1.heap.size, 0, none⟩ = some (.slice (some ⟨go, 0, none⟩) n co) ∧ W'.cell? ⟨w.heap.size, 0, none⟩ = some (.slice (some ⟨bl, 0, none⟩) l.length cap) ∧ W'.cell? ⟨go, q * 4 + 1, none⟩ = some (.int .i64 s.b) ∧ W'.cell? ⟨go, q * 4 + 2, none⟩ = some (.int .i64 m) ∧ W'.cell? ⟨bl, kb * 4 + 2, none⟩ = some (.int .i64 m))) (by kernel_rfl) (by kernel_rfl) (by rintro ⟨a, w, h⟩; exact h) ⟨yo5, hA5.cell rfl, cb5, cm5, yl5⟩ (fun hHeld => ?_)
     refine tkH 0 ?_
     try simp only [pt]
     refine tkH 1 ?_
     try simp only [pt]
     refine tkH 2 ?_
     try simp only [pt]
     refine tkH 3 ?_
     try simp only [pt]
     refine tkH 4 ?_
     try simp only [pt]
     refine tkH 5 ?_
     try simp only [pt]
     refine tkH 6 ?_
     try simp only [pt]
     refine tkH 7 ?_
     try simp only [pt]
     refine tkH 8 ?_
     try simp only [pt]
     refine tkH 9 ?_
     try simp only [pt]
     refine tkH 10 ?_
     try simp only [pt]
     refine tkH 11 ?_
     try simp only [pt]
     refine tkH 12 ?_
     try simp only [pt]
     refine tkH 13 ?_
     try simp only [pt]
     refine tkH 14 ?_
     try simp only [pt]
     refine tkH 15 ?_
     try simp only [pt]
     refine tkH 16 ?_
     try simp only [pt]
     refine tkH 17 ?_
     try simp only [pt]
     refine tkH 18 ?_
     try simp only [pt]
     refine tkH 19 ?_
     try simp only [pt]
     refine tkH 20 ?_
     try simp only [pt]
     refine tkH 21 ?_
     try simp only [pt]
     refine tkH 22 ?_
     try simp only [pt]
     refine tkH 23 ?_
     try simp only [pt]
     refine wpAnyH_done (by kernel_rfl) ?_ _
     have hb6 := hb5.drew
     have hO6 := hO.kept hb6
     have hA6 := hA.kept hb6
     have yo6 : W5.drew.cell? ⟨w1.heap.size, 0, none⟩ = some (.slice (some ⟨go, 0, none⟩) n co) := yo5
     have ys6 : W5.drew.cell? ⟨go, q * 4 + 1, none⟩ = some (.int .i64 s.b) := cb5
     have zs6 : W5.drew.frozen? ⟨go, q * 4 + 1, none⟩ = false := by
      have e := hb6.block go hgo
      have h := zs
      unfold World.frozen? at h ⊢
      rw [e]; exact h
     have hR6 := own_below hR2.out hb6
     obtain ⟨W6, hW6⟩ : ∃ W6, W5.drew = W6 := ⟨_, rfl⟩
     rw [hW6] at hb6 yo6 ys6 zs6 hO6 hA6 hR6
     rw [hW6]
     have hs6 := hb6.size
     have hgB : w3.heap.size ≤ go := by have h := hR2.out; have := h.lt go (by rw [HOUT.out]; rfl); exact this.1
     have HR6 := Lib.hid hR6
     clear hHeld hb5 yo5 cb5 cm5 hW6 hO' hA5 hB5x hR6
     gi_wp2
     have hb6B := hb6
     have hTn := (Turn.refl (fun j => j = go) W6).setCell rfl (q * 4 + 1) (.int .i64 y)
     refine ⟨(keeps_low hb6).trans (KeepsOthers.setCell _ _ _), ⟨by have : (W6.setCell ⟨go, q * 4 + 1, none⟩ (.int .i64 y)).heap.size = W6.heap.size := (by simp); omega, (Below.heap_setCell W6 _ _ _ (by show W2.heap.size ≠ go; omega)).trans (hb6.block _ (by omega)), (Below.heap_setCell W6 _ _ _ (by show g ≠ go; omega)).trans (hb6.block _ (by omega))⟩, ?_, (hB.trans (hb6.mono hB.size)).setCell (p := ⟨go, q * 4 + 1, none⟩) (by show w.heap.size ≤ go; omega) _⟩
     refine ⟨out, n, ?_, hO6.other (a := ⟨go, q * 4 + 1, none⟩) (by show w1.heap.size ≠ go; omega) _, ?_, hA6.other (a := ⟨go, q * 4 + 1, none⟩) (by show w.heap.size ≠ go; omega) _, by simp; omega⟩
     ·rw [List.length_append, List.length_range, List.length_singleton, HSTEP.out]; simp [HQ.out]; exact HNQ.out.symm
     ·rw [List.length_append, List.length_range, List.length_singleton, HSTEP.out]
      have h := HR6.out
      rw [HOUT.out, ← HSN.out, HRR.out, HSN.out] at h
      have h2 := own_put (y := y) h
      rw [HQ.out, HSM.out.1, HSM.out.2] at h2
      rw [HOUT.out]
      exact h2
    ·have he : (s.b == t) = false := by simpa using hst
     have HST := Lib.hid hst
     clear hst
     have HSTEP := Lib.hid (show resK l m xs (k + 1) = R ++ [⟨t, y, m, 0⟩] by rw [HSTEP0.out]; unfold stepR; rw [if_pos HCV.out, HSN.out]; simp [HST.out])
     refine wpIn_region_drew (S := (fun W' => W'.cell? ⟨w1.heap.size, 0, none⟩ = some (.slice (some ⟨go, 0, none⟩) n co) ∧ W'.cell? ⟨w.heap.size, 0, none⟩ = some (.slice (some ⟨bl, 0, none⟩) l.length cap) ∧ W'.cell? ⟨go, q * 4 + 1, none⟩ = some (.int .i64 s.b) ∧ W'.cell? ⟨go, q * 4 + 2, none⟩ = some (.int .i64 m) ∧ W'.cell? ⟨bl, kb * 4 + 2, none⟩ = some (.int .i64 m))) (by kernel_rfl) (by kernel_rfl) (by rintro ⟨a, w, h⟩; exact h) ⟨yo5, hA5.cell rfl, cb5, cm5, yl5⟩ (fun hHeld => ?_)
     refine tkH 0 ?_
     try simp only [pt]
     refine tkH 1 ?_
     try simp only [pt]
     refine tkH 2 ?_
     try simp only [pt]
     refine tkH 3 ?_
     try simp only [pt]
     refine tkH 4 ?_
     try simp only [pt]
     refine tkH 5 ?_
     try simp only [pt]
     refine tkH 6 ?_
     try simp only [pt]
     refine tkH 7 ?_
     try simp only [pt]
     refine tkH 8 ?_
     try simp only [pt]
     refine tkH 9 ?_
     try simp only [pt]
     refine tkH 10 ?_
     try simp only [pt]
     refine tkH 11 ?_
     try simp only [pt]
     refine tkU 12 ?_
     try simp only [pt]
     refine tkU 13 ?_
     try simp only [pt]
     refine tkU 14 ?_
     try simp only [pt]
     refine tkU 15 ?_
     try simp only [pt]
     refine tkU 16 ?_
     try simp only [pt]
     refine tkU 17 ?_
     try simp only [pt]
     refine tkU 18 ?_
     try simp only [pt]
     refine tkU 19 ?_
     try simp only [pt]
     refine tkU 20 ?_
     try simp only [pt]
     refine tkU 21 ?_
     try simp only [pt]
     refine tkU 22 ?_
     try simp only [pt]
     refine tkH 23 ?_
     try simp only [pt]
     refine wpAnyH_done (by kernel_rfl) ?_ _
     have hb6 := hb5.drew
     have yl6 : W5.drew.cell? ⟨bl, kb * 4 + 2, none⟩ = some (.int .i64 m) := yl5
     obtain ⟨W6, hW6⟩ : ∃ W6, W5.drew = W6 := ⟨_, rfl⟩
     rw [hW6] at hb6 yl6
     rw [hW6]
     clear hHeld hb5 yo5 cb5 cm5 yl5 hW6 hO' hA5 hB5x zs cb cm
     gi_wp2
     have hO6 := hO.kept hb6
     have hA6 := hA.kept hb6
     have hs6 := hb6.size
     have yo6 : W6.drew.cell? ⟨w1.heap.size, 0, none⟩ = some out := hO6.cell rfl
     have hB6x := hB.trans (hb6.mono hB.size)
     have HR6 := Lib.hid (own_below hR.out hb6)
     have KA := hA6.drew.alloc (.cells #[.int .i64 t, .int .i64 y, .int .i64 m, .int .i64 0] 264)
     have KO := hO6.drew.alloc (.cells #[.int .i64 t, .int .i64 y, .int .i64 m, .int .i64 0] 264)
     have hbl : bl < w.heap.size := hblt
     have KL : (W6.drew.alloc (.cells #[.int .i64 t, .int .i64 y, .int .i64 m, .int .i64 0] 264)).cell? ⟨bl, kb * 4 + 2, none⟩ = some (.int .i64 m) := (((Below.refl _ W6).drew.alloc (Nat.le_refl _) _).cell (p := ⟨bl, kb * 4 + 2, none⟩) (by show bl < W6.heap.size; omega)).trans yl6
     have nob : ∀ q, out.ownBlock = some q → w3.heap.size ≤ q := fun q hq => (HR6.out.lt q hq).1
     have KV7 : ∀ {w7 : World}, (W6.drew.alloc (.cells #[.int .i64 t, .int .i64 y, .int .i64 m, .int .i64 0] 264)).grownBy w7 out.ownBlock → BlockIs w7 w.heap.size #[.slice (some ⟨bl, 0, none⟩) l.length cap] 260 := fun hg => (hg.block _ KA.lt (fun e => by have := nob _ e.symm; omega)).trans KA
     have KO7 : ∀ {w7 : World}, (W6.drew.alloc (.cells #[.int .i64 t, .int .i64 y, .int .i64 m, .int .i64 0] 264)).grownBy w7 out.ownBlock → BlockIs w7 w1.heap.size #[out] 260 := fun hg => (hg.block _ KO.lt (fun e => by have := nob _ e.symm; omega)).trans KO
     have KL7 : ∀ {w7 : World}, (W6.drew.alloc (.cells #[.int .i64 t, .int .i64 y, .int .i64 m, .int .i64 0] 264)).grownBy w7 out.ownBlock → w7.cell? ⟨bl, kb * 4 + 2, none⟩ = some (.int .i64 m) := fun hg => (World.cell?_of_block (a := ⟨bl, kb * 4 + 2, none⟩) (hg.block bl (by simp; omega) (fun e => by have := nob _ e.symm; omega))).trans KL
     have KS7 : ∀ {w7 : World}, (W6.drew.alloc (.cells #[.int .i64 t, .int .i64 y, .int .i64 m, .int .i64 0] 264)).grownBy w7 out.ownBlock → ∀ u, (w7.setCell ⟨w1.heap.size, 0, none⟩ u).cell? ⟨w.heap.size, 0, none⟩ = some (.slice (some ⟨bl, 0, none⟩) l.length cap) ∧ (w7.setCell ⟨w1.heap.size, 0, none⟩ u).cell? ⟨bl, kb * 4 + 2, none⟩ = some (.int .i64 m) := fun hg u =>
      ⟨((KV7 hg).other (a := ⟨w1.heap.size, 0, none⟩) (by show w.heap.size ≠ w1.heap.size; omega) u).cell rfl, by rw [World.cell?_setCell_other _ _ _ _ (by intro e; have h3 := congrArg Addr.block e; dsimp only at h3; omega)]; exact KL7 hg⟩
     have FIN : ∀ (g7 cap7 : Nat) (w7 : World), w7.ownsRow w3.heap.size 264 4 (.slice (some ⟨g7, 0, none⟩) (n + 1) cap7) (n + 1) (spC R ++ [.int .i64 t, .int .i64 y, .int .i64 m, .int .i64 0]) → (W6.drew.alloc (.cells #[.int .i64 t, .int .i64 y, .int .i64 m, .int .i64 0] 264)).grownBy w7 out.ownBlock →
       KeepsOthers W (w7.setCell ⟨w1.heap.size, 0, none⟩ (.slice (some ⟨g7, 0, none⟩) (n + 1) cap7)) ∧ KB W2.heap.size g W (w7.setCell ⟨w1.heap.size, 0, none⟩ (.slice (some ⟨g7, 0, none⟩) (n + 1) cap7)) ∧ RvI w w.heap.size w1.heap.size w3.heap.size (.slice (some ⟨bl, 0, none⟩) l.length cap) l m xs (List.range k ++ [k]) (w7.setCell ⟨w1.heap.size, 0, none⟩ (.slice (some ⟨g7, 0, none⟩) (n + 1) cap7)) ∧ Below w.heap.size w (w7.setCell ⟨w1.heap.size, 0, none⟩ (.slice (some ⟨g7, 0, none⟩) (n + 1) cap7)) := by
      intro g7 cap7 w7 h7 hg7
      have hz7 := hg7.size
      rw [World.size_alloc] at hz7
      have hz7' : W6.heap.size + 1 ≤ w7.heap.size := hz7
      have RX := HR6.out.drew.alloc (.cells #[.int .i64 t, .int .i64 y, .int .i64 m, .int .i64 0] 264)
      have hbx := (hb6.drew).alloc hb6.size (.cells #[.int .i64 t, .int .i64 y, .int .i64 m, .int .i64 0] 264)
      have blk : ∀ q, q < w3.heap.size → q ≠ w1.heap.size → (w7.setCell ⟨w1.heap.size, 0, none⟩ (.slice (some ⟨g7, 0, none⟩) (n + 1) cap7)).heap[q]? = W.heap[q]? := fun q hq hne => by
       refine (Below.heap_setCell w7 _ _ q (fun e => hne e)).trans ((hg7.block q (by simp; omega) (fun e => by have := nob _ e.symm; omega)).trans ?_)
       exact hbx.block q (by omega)
      refine ⟨(keeps_low hbx).trans ((KeepsOthers.of_grownBy hg7 (fun j o e ho => ?_)).trans (KeepsOthers.setCell _ _ _)), ⟨by have : (w7.setCell ⟨w1.heap.size, 0, none⟩ (.slice (some ⟨g7, 0, none⟩) (n + 1) cap7)).heap.size = w7.heap.size := (by simp); omega, blk _ (by omega) (by omega), blk _ hg2 (by omega)⟩, ?_, ?_⟩
      ·obtain ⟨cur, hc⟩ := own_spans RX e
       rw [hc] at ho; cases ho; rfl
      ·refine ⟨_, n + 1, ?_, (KO7 hg7).set 0 _, ?_, (KV7 hg7).other (a := ⟨w1.heap.size, 0, none⟩) (by show w.heap.size ≠ w1.heap.size; omega) _, by simp; omega⟩
       ·rw [List.length_append, List.length_range, List.length_singleton, HSTEP.out]; simp [HRR.out]
       ·rw [List.length_append, List.length_range, List.length_singleton, HSTEP.out]
        have := ((Turn.refl (fun j => j = w1.heap.size) w7).setCell rfl 0 (.slice (some ⟨g7, 0, none⟩) (n + 1) cap7)).own h7 (fun j hj => by have := (h7.lt j hj).1; omega)
        unfold spC at this ⊢
        rw [List.flatMap_append]
        exact this
      ·have hB6 := hB.trans (hbx.mono hB.size)
       exact (hB6.grown hg7 hB6.size (fun j e => by have := nob j e; omega)).setCell (p := ⟨w1.heap.size, 0, none⟩) (by show w.heap.size ≤ w1.heap.size; omega) _
     refine wpIn_region_drew (S := (fun W' => W'.cell? ⟨w.heap.size, 0, none⟩ = some (.slice (some ⟨bl, 0, none⟩) l.length cap) ∧ W'.cell? ⟨bl, kb * 4 + 2, none⟩ = some (.int .i64 m))) (by kernel_rfl) (by kernel_rfl) (by rintro ⟨a, w, h⟩; exact h) ⟨hA6.cell rfl, yl6⟩ (fun hHeld => ?_)
     refine tkH 1 ?_
     try simp only [pt]
     refine tkH 2 ?_
     try simp only [pt]
     refine tkH 3 ?_
     try simp only [pt]
     refine tkH 4 ?_
     try simp only [pt]
     refine tkH 5 ?_
     try simp only [pt]
     refine tkH 6 ?_
     try simp only [pt]
     refine tkH 7 ?_
     try simp only [pt]
     refine tkH 8 ?_
     try simp only [pt]
     refine rdy [0, 9] ?_
     refine' arC rfl (fun KK hKK => ?xf0) (arC rfl (fun KK hKK => ?xf9) AllReadyH.nil)
     case xf0 =>
      go_simp
      refine' hKK.out _ _ ⟨hA6.cell rfl, yl6⟩ (fun _ => ?rfa)
      clear hKK KK
      try simp only [pt]
      refine rdy [9] ?_
      refine' arC rfl (fun KK hKK => ?fa9) AllReadyH.nil
      go_simp
      refine' hKK.out _ _ ⟨KA.cell rfl, KL⟩ (fun _ => ?rfa9)
      clear hKK KK
      try simp only [pt]
      refine rdy [10] ?_
      refine' arC rfl (fun KK hKK => ?fa10) AllReadyH.nil
      refine step_append_lies _ rfl (.tmp 59) (.tmp 68) 260 rfl w3.heap.size 264 i0 (.agg #[.int .i64 0, .int .i64 0, .int .i64 0, .int .i64 0]) 4 32 Tryz.underlying260 (hi0 ()) hz0 hz1 hz2 rfl (by decide) _ n _ rfl (HR6.out.drew.alloc _) ⟨W6.heap.size, 0, none⟩ 1 1 [.int .i64 t, .int .i64 y, .int .i64 m, .int .i64 0] rfl rfl (sp_new _ _ _ _ _) (by intro u hu; simp at hu; rcases hu with hu | hu | hu | hu <;> subst hu <;> rfl) (by omega) (by unfold maxLen; omega) (by omega) (by simp; omega) _ rfl ?_
      intro g7 cap7 w7 h7 hg7 hor7 hlt7
      refine hKK.out _ _ (⟨(KV7 hg7).cell rfl, KL7 hg7⟩) (fun _ => ?_)
      clear hKK KK
      try simp only [pt]
      have yo7 := (KO7 hg7).cell (i := 0) (v := out) rfl
      have zo7 := (KO7 hg7).free 0
      refine rdy [11] ?_
      refine' arC rfl (fun KK hKK => ?fa11) AllReadyH.nil
      go_simp
      refine hKK.out _ _ (KS7 hg7 _) (fun _ => ?_)
      clear hKK KK
      try simp only [pt]
      refine wpAnyH_done (by kernel_rfl) ?_ _
      clear yo7 zo7
      gi_wp2
      exact FIN g7 cap7 w7 h7 hg7
     case xf9 =>
      go_simp
      refine' hKK.out _ _ ⟨KA.cell rfl, KL⟩ (fun _ => ?rfb)
      clear hKK KK
      try simp only [pt]
      refine rdy [0] ?_
      refine' arC rfl (fun KK hKK => ?fb0) AllReadyH.nil
      have yob : (W6.alloc (.cells #[.int .i64 t, .int .i64 y, .int .i64 m, .int .i64 0] 264)).cell? ⟨w1.heap.size, 0, none⟩ = some out := (hO6.alloc (.cells #[.int .i64 t, .int .i64 y, .int .i64 m, .int .i64 0] 264)).cell rfl
      go_simp
      refine' hKK.out _ _ ⟨KA.cell rfl, KL⟩ (fun _ => ?rfb9)
      clear hKK KK
      try simp only [pt]
      refine rdy [10] ?_
      refine' arC rfl (fun KK hKK => ?fb10) AllReadyH.nil
      refine step_append_lies _ rfl (.tmp 59) (.tmp 68) 260 rfl w3.heap.size 264 i0 (.agg #[.int .i64 0, .int .i64 0, .int .i64 0, .int .i64 0]) 4 32 Tryz.underlying260 (hi0 ()) hz0 hz1 hz2 rfl (by decide) _ n _ rfl (HR6.out.drew.alloc _) ⟨W6.heap.size, 0, none⟩ 1 1 [.int .i64 t, .int .i64 y, .int .i64 m, .int .i64 0] rfl rfl (sp_new _ _ _ _ _) (by intro u hu; simp at hu; rcases hu with hu | hu | hu | hu <;> subst hu <;> rfl) (by omega) (by unfold maxLen; omega) (by omega) (by simp; omega) _ rfl ?_
      intro g7 cap7 w7 h7 hg7 hor7 hlt7
      refine hKK.out _ _ (⟨(KV7 hg7).cell rfl, KL7 hg7⟩) (fun _ => ?_)
      clear hKK KK
      try simp only [pt]
      have yo7 := (KO7 hg7).cell (i := 0) (v := out) rfl
      have zo7 := (KO7 hg7).free 0
      refine rdy [11] ?_
      refine' arC rfl (fun KK hKK => ?fb11) AllReadyH.nil
      go_simp
      refine hKK.out _ _ (KS7 hg7 _) (fun _ => ?_)
      clear hKK KK
      try simp only [pt]
      refine wpAnyH_done (by kernel_rfl) ?_ _
      clear yo7 zo7
      gi_wp2
      exact FIN g7 cap7 w7 h7 hg7
 case done =>
  rintro D ys W hDl rfl ⟨⟨out, n, h0, hO, hR, hA, hs⟩, hB⟩ hK
  have zo : W.cell? ⟨w1.heap.size, 0, none⟩ = some out := hO.cell rfl
  simp only [List.length_range] at h0 hR
  gi_wp2
  go_wp2
  refine ⟨by simp, .inl ⟨_, _, rfl, run_takeDeferred hK, ?_⟩⟩
  have hxs := HXS.out
  subst hxs
  refine ⟨.tuple #[out, .int .i64 0], by simp [results, Tryz.results201, go_sem], out, _, n, rfl, rfl, h0, (hR.kept (grownBy_putObj' W D (.deferred none)) ?_).mono (by omega), low_putObj hB (by have := HW3.out.size; omega) _⟩
  cases hq : out.ownBlock with
  | none => exact .inl rfl
  | some q =>
   right
   intro e
   obtain ⟨cur, hc⟩ := own_spans hR hq
   cases e
   rw [hK] at hc; cases hc
 case stop =>
  rintro D c pre W hDl _ ⟨hf, _⟩
  exact hf.elim
end Go.Proofs.YtfnifgppblbjhaaGreatDoor
