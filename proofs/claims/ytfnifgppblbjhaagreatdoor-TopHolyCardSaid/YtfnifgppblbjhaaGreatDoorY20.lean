/- Part of the proof of TopHoly. -/
import Derived.Test.YtfnifgppblbjhaaGreatDoorY01
import Derived.Test.YtfnifgppblbjhaaGreatDoorY16
import Derived.Test.YtfnifgppblbjhaaGreatDoorY17
import Derived.Test.YtfnifgppblbjhaaGreatDoorY19
import Derived.Deep.AppendLies
import Derived.Deep.RegionHeld3
import Derived.DeepKeys4
import Derived.Maps.Own
namespace Go.Proofs.YtfnifgppblbjhaaGreatDoor
set_option maxHeartbeats 8000000
open Go Go.RowKit
set_option linter.unusedVariables false
set_option linter.unusedSimpArgs false
theorem carRest_ok (g : Gr) (w : World) (h : GrOk g) : Calls Tryz.prog 215 #[.agg (grA g), .agg ca0.toArray] w fun e w' => e = .returned (.tuple #[.int .i64 0, .int .i64 0]) ∧ Below w.heap.size w w' := by
 have hG := (BlockIs.new w (grA g) 91).alloc (.cells ca0.toArray 85)
 have hC := BlockIs.new (w.alloc (.cells (grA g) 91)) ca0.toArray 85
 simp only [World.size_alloc] at hC
 have HB := (((Below.refl w.heap.size w).alloc (by exact Nat.le_refl _) (.cells (grA g) 91)).alloc (by simp only [World.size_alloc]; omega) (.cells ca0.toArray 85))
 have c0 := hG.cell (i := 0) (v := .int .i64 g.fl) rfl
 have c1 := hG.cell (i := 1) (v := .int .i64 g.tv) rfl
 have c2 := hG.cell (i := 2) (v := .int .i64 g.lv) rfl
 have c3 := hG.cell (i := 3) (v := .int .i64 g.op) rfl
 have c4 := hG.cell (i := 4) (v := .int .i64 g.dw) rfl
 have c5 := hG.cell (i := 5) (v := .int .i64 g.ld) rfl
 have c6 := hG.cell (i := 6) (v := .int .i64 g.cl) rfl
 have c7 := hG.cell (i := 7) (v := .int .i64 g.ho) rfl
 have c8 := hG.cell (i := 8) (v := .int .i64 g.d) rfl
 have c9 := hG.cell (i := 9) (v := .int .i64 g.m) rfl
 have d0 := hC.cell (i := 0) (v := .int .i64 0) rfl
 have d1 := hC.cell (i := 1) (v := .int .i64 0) rfl
 have d2 := hC.cell (i := 2) (v := .int .i64 0) rfl
 have d3 := hC.cell (i := 3) (v := .int .i64 0) rfl
 have d4 := hC.cell (i := 4) (v := .int .i64 0) rfl
 have d5 := hC.cell (i := 5) (v := .int .i64 0) rfl
 have d6 := hC.cell (i := 6) (v := .int .i64 0) rfl
 have HG := Lib.hid hG
 have HC := Lib.hid hC
 clear hG hC
 go_enter Tryz.func215, Tryz.ntmps215
 go_wp2_with fail
 refine (carcheck_ok g _ h).mono ?_; rintro e w1 ⟨rfl, hb1⟩
 have hG := HG.out.kept hb1
 have hC := HC.out.kept hb1
 have HB1 := HB.trans (hb1.mono HB.size)
 clear c0 c1 c2 c3 c4 c5 c6 c7 c8 c9 d0 d1 d2 d3 d4 d5 d6 HB hb1 HG HC
 have hG1 := hG.alloc (.cells #[.int .i64 0, .int .i64 0, .int .i64 0] 83)
 have hC1 := hC.alloc (.cells #[.int .i64 0, .int .i64 0, .int .i64 0] 83)
 have hD1 := BlockIs.new w1 #[.int .i64 0, .int .i64 0, .int .i64 0] 83
 have HB2 := HB1.alloc HB1.size (.cells #[.int .i64 0, .int .i64 0, .int .i64 0] 83)
 have d0 := hC.cell (i := 0) (v := .int .i64 0) rfl
 have d1 := hC.cell (i := 1) (v := .int .i64 0) rfl
 have d2 := hC.cell (i := 2) (v := .int .i64 0) rfl
 have d3 := hC.cell (i := 3) (v := .int .i64 0) rfl
 have d4 := hC.cell (i := 4) (v := .int .i64 0) rfl
 have d5 := hC.cell (i := 5) (v := .int .i64 0) rfl
 have d6 := hC.cell (i := 6) (v := .int .i64 0) rfl
 have c0 := hG1.cell (i := 0) (v := .int .i64 g.fl) rfl
 have c1 := hG1.cell (i := 1) (v := .int .i64 g.tv) rfl
 have c2 := hG1.cell (i := 2) (v := .int .i64 g.lv) rfl
 have c3 := hG1.cell (i := 3) (v := .int .i64 g.op) rfl
 have c4 := hG1.cell (i := 4) (v := .int .i64 g.dw) rfl
 have c5 := hG1.cell (i := 5) (v := .int .i64 g.ld) rfl
 have c6 := hG1.cell (i := 6) (v := .int .i64 g.cl) rfl
 have c7 := hG1.cell (i := 7) (v := .int .i64 g.ho) rfl
 have c8 := hG1.cell (i := 8) (v := .int .i64 g.d) rfl
 have c9 := hG1.cell (i := 9) (v := .int .i64 g.m) rfl
 have x2 := hC1.cell (i := 2) (v := .int .i64 0) rfl
 have y0 := hD1.cell (i := 0) (v := .int .i64 0) rfl
 have y1 := hD1.cell (i := 1) (v := .int .i64 0) rfl
 have y2 := hD1.cell (i := 2) (v := .int .i64 0) rfl
 have HC1 := Lib.hid hC1
 clear hG hC hG1 hC1 hD1 HB1
 go_wp2_with fail
 refine (drest_ok g _ h).mono ?_; rintro e w2 ⟨rfl, hb2⟩
 have hC2 := HC1.out.kept hb2
 have HB3 := Lib.hid (HB2.trans (hb2.mono HB2.size))
 have x3 := hC2.cell (i := 3) (v := .int .i64 0) rfl
 clear c0 c1 c2 c3 c4 c5 c6 c7 c8 c9 d0 d1 d2 d3 d4 d5 d6 x2 y0 y1 y2 HB2 hb2 HC1 hC2
 go_wp2_with fail
 go_ret2
 exact ⟨rfl, HB3.out⟩
def plA (vs : Value) (ca nth : Int) : Array Value := #[vs, .int .i64 ca, .int .i64 nth]
theorem plan_info : (Tryz.prog.info? 209).map (·.size) = some 3 := by kernel_rfl
set_option maxRecDepth 100000 in
theorem ycheck_ok (g : Gr) (st : List Int) (vs : Value) (ca nth : Int) (w : World) (h : GrOk g) (hs : StopsOk g.fl st) (hv : Rd w vs st.length (st.map (.int .i64))) (a1 : 1 ≤ ca) (a2 : ca ≤ 8) (a3 : 0 ≤ nth) (a4 : nth < ca) :
  Calls Tryz.prog 218 #[.agg (grA g), .agg (plA vs ca nth)] w fun e w' => e = .returned (.int .i64 0) ∧ Below w.heap.size w w' := by
 have hl := stops_len hs h.1.2
 obtain ⟨hs2, hsin, hsp⟩ := hs
 obtain ⟨bs, os, cs, rfl, hcs, hrs⟩ := hv.some (by omega)
 have hG := (BlockIs.new w (grA g) 91).alloc (.cells (plA (.slice (some ⟨bs, os, none⟩) st.length cs) ca nth) 209)
 have hP := BlockIs.new (w.alloc (.cells (grA g) 91)) (plA (.slice (some ⟨bs, os, none⟩) st.length cs) ca nth) 209
 simp only [World.size_alloc] at hP
 have HB := (((Below.refl w.heap.size w).alloc (by exact Nat.le_refl _) (.cells (grA g) 91)).alloc (by simp only [World.size_alloc]; omega) (.cells (plA (.slice (some ⟨bs, os, none⟩) st.length cs) ca nth) 209))
 have hr := range_keep hrs HB
 have c0 := hG.cell (i := 0) (v := .int .i64 g.fl) rfl
 have c1 := hG.cell (i := 1) (v := .int .i64 g.tv) rfl
 have c2 := hG.cell (i := 2) (v := .int .i64 g.lv) rfl
 have c3 := hG.cell (i := 3) (v := .int .i64 g.op) rfl
 have c4 := hG.cell (i := 4) (v := .int .i64 g.dw) rfl
 have c5 := hG.cell (i := 5) (v := .int .i64 g.ld) rfl
 have c6 := hG.cell (i := 6) (v := .int .i64 g.cl) rfl
 have c7 := hG.cell (i := 7) (v := .int .i64 g.ho) rfl
 have c8 := hG.cell (i := 8) (v := .int .i64 g.d) rfl
 have c9 := hG.cell (i := 9) (v := .int .i64 g.m) rfl
 have p0 := hP.cell (i := 0) (v := .slice (some ⟨bs, os, none⟩) st.length cs) rfl
 have p1 := hP.cell (i := 1) (v := .int .i64 ca) rfl
 have p2 := hP.cell (i := 2) (v := .int .i64 nth) rfl
 have hgr := h
 clear hG hP hv hrs h
 generalize hn : st.length = n at *
 have HBH := Lib.hid HB
 clear HB
 obtain ⟨W, hW⟩ : ∃ W, (w.alloc (.cells (grA g) 91)).alloc (.cells (plA (.slice (some ⟨bs, os, none⟩) n cs) ca nth) 209) = W := ⟨_, rfl⟩
 rw [hW] at c0 c1 c2 c3 c4 c5 c6 c7 c8 c9 p0 p1 p2 hr HBH
 have hd2 : decide (2 ≤ (n : Int)) = true := by simp; omega
 have HW := Lib.hid hW
 go_enter Tryz.func218, Tryz.ntmps218
 go_wp2_with fail
 clear hW HW
 go_loopw [5, 6, 7, 39] (fun isv _ _ iv wr => ∃ k : Nat, k ≤ n ∧ isv = .bool true ∧ iv = .int .i64 (k : Int) ∧ W = wr) (fun _ _ _ iv _ => (n - intOf iv).toNat)
 case atStart => exact ⟨0, by omega, rfl, rfl, rfl⟩
 case round =>
  obtain ⟨k, hk, rfl, rfl, rfl⟩ := hrel
  by_cases hc : k < n
  ·obtain ⟨x, hx⟩ : ∃ x, st[k]? = some x := ⟨_, List.getElem?_eq_getElem (by omega)⟩
   have hxi := hsin x (List.mem_of_getElem? hx)
   have hcell : W.cell? ⟨bs, os + k, none⟩ = some (.int .i64 x) := hr k (.int .i64 x) (by simp [hx])
   have hlt : decide (k < n) = true := by simpa using hc
   obtain ⟨x1, x2⟩ := hxi
   rcases Nat.eq_zero_or_pos k with k0 | k0
   ·have hk0 : ((k : Int) == 0) = true := by simp; omega
    clear hsp hsin hr hx k0
    go_wp2_with fail
    go_round
    case rel => exact ⟨k + 1, by omega, rfl, by go_num, trivial⟩
    case measure => simp [intOf]; omega
   ·obtain ⟨y, hy⟩ : ∃ y, st[k - 1]? = some y := ⟨_, List.getElem?_eq_getElem (by omega)⟩
    have hyc : W.cell? ⟨bs, os + (k - 1), none⟩ = some (.int .i64 y) := hr (k - 1) (.int .i64 y) (by simp [hy])
    have hyx : y < x := by
     have h1 := (List.getElem?_eq_some_iff.1 hy)
     have h2 := (List.getElem?_eq_some_iff.1 hx)
     obtain ⟨q1, e1⟩ := h1
     obtain ⟨q2, e2⟩ := h2
     rw [← e1, ← e2]
     exact (List.pairwise_iff_getElem.1 hsp) (k - 1) k q1 q2 (by omega)
    have hk1 : ((k : Int) == 0) = false := by simp; omega
    have hk2 : (1 : Int) ≤ (k : Int) := by omega
    have hk3 : (k : Int) - 1 < (n : Int) := by omega
    clear hsp hsin hr hx hy
    go_wp2_with fail
    go_round
    case rel => exact ⟨k + 1, by omega, rfl, by go_num, trivial⟩
    case measure => simp [intOf]; omega
  ·have e : k = n := by omega
   subst e
   have hlt : decide (k < k) = false := by simp
   clear hsp hsin hr
   go_wp2_with fail
   refine (carRest_ok g _ hgr).mono ?_; rintro e w2 ⟨rfl, hb2⟩
   have HB2 := Lib.hid (HBH.out.trans (hb2.mono HBH.out.size))
   clear HBH hb2 c0 c1 c2 c3 c4 c5 c6 c7 c8 c9 p0 p1 p2
   go_wp2_with fail
   go_ret
   exact ⟨rfl, HB2.out⟩
theorem yplace_ok (st : List Int) (p : Option Addr) (c : Nat) (ca nth : Int) (w : World) (hs2 : 2 ≤ st.length) (hl : st.length ≤ 64) (a1 : 1 ≤ ca) (a2 : ca ≤ 8) (a3 : 0 ≤ nth) (a4 : nth < ca) :
  Calls Tryz.prog 220 #[.agg (plA (.slice p st.length c) ca nth), .int .i64 nth] w fun e w' => ∃ q : Nat, q < 2 * st.length - 2 ∧ e = .returned (.int .i64 (q : Int)) ∧ Below w.heap.size w w' := by
 have hP := BlockIs.new w (plA (.slice p st.length c) ca nth) 209
 have HB := ((Below.refl w.heap.size w).alloc (by exact Nat.le_refl _) (.cells (plA (.slice p st.length c) ca nth) 209))
 have p0 := hP.cell (i := 0) (v := .slice p st.length c) rfl
 have p1 := hP.cell (i := 1) (v := .int .i64 ca) rfl
 have p2 := hP.cell (i := 2) (v := .int .i64 nth) rfl
 clear hP
 have HB := Lib.hid HB
 generalize hn : st.length = n at *
 have hne : (ca == 0) = false := by simp; omega
 have b0 : 0 ≤ nth * (2 * (n : Int) - 2) := Int.mul_nonneg a3 (by omega)
 have b1 : nth * (2 * (n : Int) - 2) ≤ 8 * (2 * (n : Int) - 2) := Int.mul_le_mul_of_nonneg_right (by omega) (by omega)
 have b2 : nth * (2 * (n : Int) - 2) < ca * (2 * (n : Int) - 2) := Int.mul_lt_mul_of_pos_right a4 (by omega)
 have e1 : IntKind.i64.wrap (2 * (n : Int)) = 2 * n := IntWalk.i64_in _ ⟨by omega, by omega⟩
 have e2 : IntKind.i64.wrap (2 * (n : Int) - 2) = 2 * n - 2 := IntWalk.i64_in _ ⟨by omega, by omega⟩
 have e3 : IntKind.i64.wrap (nth * (2 * (n : Int) - 2)) = nth * (2 * n - 2) := IntWalk.i64_in _ ⟨by omega, by omega⟩
 go_enter Tryz.func220, Tryz.ntmps220
 go_wp2_with fail
 have q0 : 0 ≤ nth * (2 * (n : Int) - 2) / ca := Int.ediv_nonneg b0 (by omega)
 have q1 : nth * (2 * (n : Int) - 2) / ca < 2 * (n : Int) - 2 := Int.ediv_lt_of_lt_mul (by omega) (by rw [Int.mul_comm (2 * (n : Int) - 2) ca]; exact b2)
 go_ret
 exact ⟨(nth * (2 * (n : Int) - 2) / ca).toNat, by omega, by rw [Int.toNat_of_nonneg q0]; rfl, HB.out⟩
def RowY (fl : Int) (n : Nat) (w : World) (P : Array Value) (out i : Value) (wr : World) : Prop :=
 ∃ (m : Nat) (L : List Int), m + 2 ≤ n ∧ i = .int .i64 (m : Int) ∧ L.length = 2 * n - 2 - m ∧ (∀ x ∈ L, 0 ≤ x ∧ x < fl) ∧ wr.ownsRow (w.heap.size + 1) 3 1 out (2 * n - 2 - m) (L.map (.int .i64)) ∧ BlockIs wr w.heap.size P 209 ∧ Below w.heap.size w wr ∧ w.heap.size + 1 ≤ wr.heap.size
theorem yrow_ok (fl : Int) (st : List Int) (vs : Value) (ca nth : Int) (w : World) (hs : StopsOk fl st) (h64 : fl ≤ 64) (hv : Rd w vs st.length (st.map (.int .i64))) :
  Calls Tryz.prog 219 #[.agg (plA vs ca nth)] w fun e w' => ∃ (L : List Int) (v : Value), e = .returned v ∧ L.length = 2 * st.length - 2 ∧ (∀ x ∈ L, 0 ≤ x ∧ x < fl) ∧ w'.ownsRow w.heap.size 3 1 v L.length (L.map (.int .i64)) ∧ Below w.heap.size w w' := by
 obtain ⟨i0, hi0, hz0, hz1, hz2⟩ := info_hid int_info0
 have hl := stops_len hs h64
 obtain ⟨hs2, hsin, hsp⟩ := hs
 obtain ⟨bs, os, cs, rfl, hcs, hrs⟩ := hv.some (by omega)
 have hP := BlockIs.new w (plA (.slice (some ⟨bs, os, none⟩) st.length cs) ca nth) 209
 have HB := ((Below.refl w.heap.size w).alloc (by exact Nat.le_refl _) (.cells (plA (.slice (some ⟨bs, os, none⟩) st.length cs) ca nth) 209))
 have hr := range_keep hrs HB
 have hP0 := hP
 have p0 := hP0.cell (i := 0) (v := .slice (some ⟨bs, os, none⟩) st.length cs) rfl
 generalize hn : st.length = n at *
 have hP1 := hP.alloc (.cells #[] 3)
 have hr1 := range_keep hr ((Below.refl _ _).alloc (Nat.le_refl _) (.cells #[] 3))
 have hown := own_block (cs := []) 0 (w.heap.size + 1) (BlockIs.new (w.alloc (.cells (plA (.slice (some ⟨bs, os, none⟩) n cs) ca nth) 209)) #[] 3) rfl (by simp) (by omega)
 rw [World.size_alloc] at hown
 have HB1 := HB.alloc (by simp only [World.size_alloc]; omega) (.cells #[] 3)
 have hsz : ((w.alloc (.cells (plA (.slice (some ⟨bs, os, none⟩) n cs) ca nth) 209)).alloc (.cells #[] 3)).heap.size = w.heap.size + 1 + 1 := by simp
 have x0 := hP1.cell (i := 0) (v := .slice (some ⟨bs, os, none⟩) n cs) rfl
 have HN := Lib.hid (show ∀ j u, (st.map (Value.int .i64))[j]? = some u → ((w.alloc (.cells (plA (.slice (some ⟨bs, os, none⟩) n cs) ca nth) 209)).alloc (.cells #[] 3)).cell? ((⟨bs, os, none⟩ : Addr).add j) = some u from fun j u hu => by rw [Addr.add_mid]; exact hr1 j u hu)
 have HP := Lib.hid hP1
 have HR := Lib.hid hrs
 have HO := Lib.hid hown
 have HB2 := Lib.hid HB1
 have hlm : (st.map (Value.int .i64)).length = n * 1 := by simp [hn]
 have hone := int_one .i64 st
 clear hP hv hrs hP0 hsp hr hP1 hr1 hown HB1 HB
 go_enter Tryz.func219, Tryz.ntmps219
 go_wp2_with (first | (at_builtin; refine wpList_append_lies _ rfl (.tmp 5) (.tmp 7) 22 rfl (w.heap.size + 1) 3 i0 (.int .i64 0) 1 8 Tryz.underlying22 (hi0 ()) hz0 hz1 hz2 rfl (by decide) _ 0 _ rfl HO.out ⟨bs, os, none⟩ n cs (st.map (.int .i64)) rfl hlm HN.out hone (by omega) (by unfold maxLen; omega) (by omega) (by rw [hsz]; omega) _ rfl ?_; intro g cap w1 h2 h3 h4 h5; have y0 := (HP.out.grownNot h3 (fun e => by have := (HO.out.lt _ e.symm).1; omega)).cell (i := 0) (v := .slice (some ⟨bs, os, none⟩) n cs) rfl))
 have hP1 := HP.out.grownNot h3 (fun e => by have := (HO.out.lt _ e.symm).1; omega)
 have hB1 := HB2.out.grown h3 (by rw [hsz]; omega) (fun k e => by have := (HO.out.lt _ e).1; omega)
 have hz1' : w.heap.size + 1 ≤ w1.heap.size := by have := h3.size; rw [hsz] at this; omega
 have h2' : w1.ownsRow (w.heap.size + 1) 3 1 (.slice (some ⟨g, 0, none⟩) n cap) (2 * n - 2 - (n - 2)) (st.map (.int .i64)) := by rw [show 2 * n - 2 - (n - 2) = n by omega]; simpa using h2
 have hst : RowY fl n w (plA (.slice (some ⟨bs, os, none⟩) n cs) ca nth) (.slice (some ⟨g, 0, none⟩) n cap) (.int .i64 ((n : Int) - 2)) w1 := ⟨n - 2, st, by omega, congrArg (Value.int .i64) (by omega), by omega, hsin, h2', hP1, hB1, hz1'⟩
 clear hP1 hB1 h2 h2' h3 h4 h5 HP HO HB2 HN x0 p0 y0
 go_loopw [3, 4] (fun out iv wr => RowY fl n w (plA (.slice (some ⟨bs, os, none⟩) n cs) ca nth) out iv wr) (fun _ iv _ => (intOf iv).toNat)
 case atStart => exact hst
 case round =>
  obtain ⟨m, L, hk, rfl, hL, hLi, hown, hP, hB, hsz2⟩ := hrel
  have x0 := hP.cell (i := 0) (v := .slice (some ⟨bs, os, none⟩) n cs) rfl
  by_cases hc : 0 < m
  ·obtain ⟨x, hx⟩ : ∃ x, st[m]? = some x := ⟨_, List.getElem?_eq_getElem (by omega)⟩
   have hxi := hsin x (List.mem_of_getElem? hx)
   have hcell : wr.cell? ⟨bs, os + m, none⟩ = some (.int .i64 x) := (range_keep HR.out hB) m (.int .i64 x) (by simp [hx])
   have hm1 : decide ((0 : Int) < (m : Int)) = true := by simpa using hc
   have hm2 : decide (m < n) = true := by simp; omega
   clear hx hst
   go_wp2_with (first | (at_builtin; refine wpList_append_lies _ rfl (.tmp 17) (.tmp 23) 22 rfl (w.heap.size + 1) 3 i0 (.int .i64 0) 1 8 Tryz.underlying22 (hi0 ()) hz0 hz1 hz2 rfl (by decide) _ (2 * n - 2 - m) _ rfl (hown.alloc _) ⟨wr.heap.size, 0, none⟩ 1 1 [.int .i64 x] rfl rfl (cell_one_new _ _ _) (by intro u hu; simp at hu; subst hu; rfl) (by omega) (by unfold maxLen; omega) (by omega) (by simp; omega) _ rfl ?_; intro g cap w' h2 h3 h4 h5))
   have hP2 := (hP.alloc (.cells #[.int .i64 x] 3)).grownNot h3 (fun e => by have := (hown.lt _ e.symm).1; omega)
   have hB2 := (hB.alloc hB.size (.cells #[.int .i64 x] 3)).grown h3 (by simp; omega) (fun k e => by have := (hown.lt _ e).1; omega)
   have hz2' : w.heap.size + 1 ≤ w'.heap.size := by have := h3.size; simp at this; omega
   go_round
   case rel => exact ⟨m - 1, L ++ [x], by omega, congrArg (Value.int .i64) (by omega), by simp [hL]; omega, (fun y hy => by rcases List.mem_append.1 hy with hy | hy; exact hLi y hy; simp at hy; subst hy; exact hxi), by rw [show 2 * n - 2 - (m - 1) = 2 * n - 2 - m + 1 by omega, List.map_append]; exact h2, hP2, hB2, hz2'⟩
   case measure => simp [intOf]; omega
  ·have e : m = 0 := by omega
   subst e
   have ho := hown.mono (base' := w.heap.size) (by omega)
   rw [← hL] at ho
   have HO2 := Lib.hid ho
   clear hst
   go_wp2_with fail
   go_ret
   exact ⟨L, _, rfl, by omega, hLi, HO2.out, hB⟩
theorem row_at {w : World} {B gb n cp q : Nat} {t : TypeId} {L : List Int} {x : Int} (h : w.ownsRow B t 1 (.slice (some ⟨gb, 0, none⟩) n cp) n (L.map (.int .i64))) (hx : L[q]? = some x) : w.cell? ⟨gb, q, none⟩ = some (.int .i64 x) := by
 have := h.cells (g := gb) rfl q (.int .i64 x) (by simp [hx])
 rwa [Addr.add_mid, Nat.zero_add] at this
set_option maxRecDepth 100000 in
theorem yFirst_ok (g : Gr) (st : List Int) (vs : Value) (ca nth : Int) (w : World) (h : GrOk g) (hs : StopsOk g.fl st) (hv : Rd w vs st.length (st.map (.int .i64))) (a1 : 1 ≤ ca) (a2 : ca ≤ 8) (a3 : 0 ≤ nth) (a4 : nth < ca) :
  Calls Tryz.prog 173 #[.agg (grA g), .agg (plA vs ca nth)] w fun e w' => ∃ x : Int, 0 ≤ x ∧ x < g.fl ∧ e = .returned (.tuple #[.int .i64 x, .int .i64 0]) ∧ Below w.heap.size w w' := by
 have hl := stops_len hs h.1.2
 have hs2 := hs.1
 obtain ⟨ps, qs, rfl⟩ := hv.form
 have hG := (BlockIs.new w (grA g) 91).alloc (.cells (plA (.slice ps st.length qs) ca nth) 209)
 have hP := BlockIs.new (w.alloc (.cells (grA g) 91)) (plA (.slice ps st.length qs) ca nth) 209
 simp only [World.size_alloc] at hP
 have HB := (((Below.refl w.heap.size w).alloc (by exact Nat.le_refl _) (.cells (grA g) 91)).alloc (by simp only [World.size_alloc]; omega) (.cells (plA (.slice ps st.length qs) ca nth) 209))
 have c0 := hG.cell (i := 0) (v := .int .i64 g.fl) rfl
 have c1 := hG.cell (i := 1) (v := .int .i64 g.tv) rfl
 have c2 := hG.cell (i := 2) (v := .int .i64 g.lv) rfl
 have c3 := hG.cell (i := 3) (v := .int .i64 g.op) rfl
 have c4 := hG.cell (i := 4) (v := .int .i64 g.dw) rfl
 have c5 := hG.cell (i := 5) (v := .int .i64 g.ld) rfl
 have c6 := hG.cell (i := 6) (v := .int .i64 g.cl) rfl
 have c7 := hG.cell (i := 7) (v := .int .i64 g.ho) rfl
 have c8 := hG.cell (i := 8) (v := .int .i64 g.d) rfl
 have c9 := hG.cell (i := 9) (v := .int .i64 g.m) rfl
 have p0 := hP.cell (i := 0) (v := .slice ps st.length qs) rfl
 have p1 := hP.cell (i := 1) (v := .int .i64 ca) rfl
 have p2 := hP.cell (i := 2) (v := .int .i64 nth) rfl
 have hv1 := hv.below HB
 have HV := Lib.hid hv1
 have HP := Lib.hid hP
 have HB1 := HB
 clear hG hP hv hv1 HB
 go_enter Tryz.func173, Tryz.ntmps173
 go_wp2_with fail
 refine (ycheck_ok g st (.slice ps st.length qs) ca nth _ h hs HV.out a1 a2 a3 a4).mono ?_; rintro e w1 ⟨rfl, hb1⟩
 have HV1 := Lib.hid (HV.out.below hb1)
 have hP1 := HP.out.kept hb1
 have HB2 := Lib.hid (HB1.trans (hb1.mono HB1.size))
 have hlt := hP1.lt
 have HS := Lib.hid (show ∀ W, Below w1.heap.size w1 W → W.cell? ⟨w.heap.size + 1, 0, none⟩ = some (.slice ps st.length qs) ∧ W.cell? ⟨w.heap.size + 1, 1, none⟩ = some (.int .i64 ca) ∧ W.cell? ⟨w.heap.size + 1, 2, none⟩ = some (.int .i64 nth) ∧ Below w1.heap.size w1 W from fun W hW => ⟨(hP1.kept hW).cell rfl, (hP1.kept hW).cell rfl, (hP1.kept hW).cell rfl, hW⟩)
 clear c0 c1 c2 c3 c4 c5 c6 c7 c8 c9 p0 p1 p2 hb1 HB1 HV HP hP1
 go_wp2_with fail
 have hd := (Below.refl w1.heap.size w1).drew
 refine wp_region_held_drew (S := fun w' => w'.cell? ⟨w.heap.size + 1, 0, none⟩ = some (.slice ps st.length qs) ∧ w'.cell? ⟨w.heap.size + 1, 1, none⟩ = some (.int .i64 ca) ∧ w'.cell? ⟨w.heap.size + 1, 2, none⟩ = some (.int .i64 nth) ∧ Below w1.heap.size w1 w') (by kernel_rfl) (HS.out _ hd) (fun hHeld => ?_)
 refine tkH 0 ?_
 try simp only [pt]
 refine tkH 2 ?_
 try simp only [pt]
 refine tkH 3 ?_
 try simp only [pt]
 refine tkH 4 ?_
 try simp only [pt]
 refine rdy [1] ?_
 refine' arC rfl (fun KK hKK => ?a1) AllReadyH.nil
 go_simp
 refine (yrow_ok g.fl st (.slice ps st.length qs) ca nth _ hs h.1.2 (HV1.out.below hd)).mono ?_; rintro e w2 ⟨L, v, rfl, hL, hLi, hown, hb2⟩; obtain ⟨gb, cp, rfl, hgb, hcp⟩ := hown.form (by omega); have hB2 := hd.trans (hb2.mono hd.size)
 refine hKK.out _ _ (HS.out _ hB2) (fun _ => ?_)
 clear hKK KK
 try simp only [pt]
 refine rdy [5] ?_
 refine' arC rfl (fun KK hKK => ?a5) AllReadyH.nil
 go_simp
 refine (yplace_ok st ps qs ca nth _ hs2 hl a1 a2 a3 a4).mono ?_; rintro e w3 ⟨q, hq, rfl, hb3⟩; have hB3 := hB2.trans (hb3.mono hB2.size)
 refine hKK.out _ _ (HS.out _ hB3) (fun _ => ?_)
 clear hKK KK
 try simp only [pt]
 obtain ⟨x, hx⟩ : ∃ x, L[q]? = some x := ⟨_, List.getElem?_eq_getElem (by omega)⟩
 have hxi := hLi x (List.mem_of_getElem? hx)
 have hcell : w3.cell? ⟨gb, q, none⟩ = some (.int .i64 x) := (hb3.cell (p := ⟨gb, q, none⟩) (hown.lt gb rfl).2).trans (row_at hown hx)
 have hql : decide (q < L.length) = true := by simp; omega
 refine tkH 6 ?_
 try simp only [pt]
 refine rdy [7] ?_
 refine' arC rfl (fun KK hKK => ?a7) AllReadyH.nil
 go_simp
 refine' hKK.out _ _ ?ah7 (fun _ => ?ar7)
 case ah7 => assumption
 clear hKK KK
 try simp only [pt]
 refine rdy [8] ?_
 refine' arC rfl (fun KK hKK => ?a8) AllReadyH.nil
 go_simp
 refine' hKK.out _ _ ?ah8 (fun _ => ?ar8)
 case ah8 => assumption
 clear hKK KK
 try simp only [pt]
 refine rdy [9] ?_
 refine' arC rfl (fun KK hKK => ?a9) AllReadyH.nil
 go_simp
 refine' hKK.out _ _ ?ah9 (fun _ => ?ar9)
 case ah9 => assumption
 clear hKK KK
 try simp only [pt]
 refine wpAnyH_done (by kernel_rfl) ?_ _
 have HB4 := Lib.hid (HB2.out.trans (hB3.mono HB2.out.size))
 clear hHeld hcell hown hb2 hb3 hB2 hB3 hd
 go_wp2_with fail
 go_ret2
 exact ⟨x, hxi.1, hxi.2, rfl, HB4.out⟩
theorem ik : Maps.Keyed Tryz.prog 3 := Maps.int_keyed Tryz.underlying3
theorem izero (w : World) : (zeroValue 3).run Tryz.prog w = .ok (.int .i64 0) w := by kernel_rfl
def MapI (w : World) (b : Nat) (l : List (Int × Int)) : Prop :=
 ∃ es clock, w.heap[b]? = some (.map es clock) ∧ ∀ k v : Value, (∃ e ∈ es.toList, e.key = k ∧ e.val = v) ↔ ∃ p ∈ l, k = .int .i64 p.1 ∧ v = .int .i64 p.2
theorem mapI_new (w : World) : MapI (w.alloc (.map #[] 0)) w.heap.size [] := ⟨#[], 0, (MapKept.heap_alloc w _).1, fun k v => by simp⟩
theorem keyI {k : Int} (hk : I64 k) : keyOf Tryz.prog 3 (.int .i64 k) = some (.int .i64 k) := Maps.keyOf_int_mk Tryz.underlying3 (WalkArith.wf_i64 ⟨by have := hk.1; omega, by have := hk.2; omega⟩)
theorem mapI_ins {w : World} {b : Nat} {l : List (Int × Int)} (h : MapI w b l) (hl : ∀ p ∈ l, I64 p.1) (k v : Int) (hk : I64 k) (hn : ∀ p ∈ l, p.1 ≠ k) :
  ∃ w', (Instr.mapUpdate 122 (.map (some b)) (.int .i64 k) (.int .i64 v)).run Tryz.prog w = .ok () w' ∧ MapI w' b (l ++ [(k, v)]) ∧ Turn (fun j => j = b) w w' := by
 obtain ⟨es, clock, h1, h2⟩ := h
 have hlt := (Array.getElem?_eq_some_iff.1 h1).1
 have hu := Tryz.underlying122
 have hkey := keyI hk
 have hck := ik.check w false hkey
 rcases ik.find w hkey es.toList (fun e he => by
  obtain ⟨p, hp, e1, _⟩ := (h2 e.key e.val).1 ⟨e, he, rfl, rfl⟩
  rw [e1]; exact ⟨_, keyI (hl p hp)⟩) with ⟨f1, f2⟩ | ⟨i, e0, f1, f2, f3⟩
 ·refine ⟨ChangeMaps.setBlock w b (.map (es.push ⟨.int .i64 k, .int .i64 v, clock⟩) (clock + 1)), ?_, ⟨es.push ⟨.int .i64 k, .int .i64 v, clock⟩, clock + 1, ?_, fun k' v' => ?_⟩, ?_⟩
  ·simp [Instr.mapUpdate, run_underlying hu, MapKept.run_getObj_map h1, hck, f1, MapKept.run_setObj_map _ h1, Result.andThen, ChangeMaps.setBlock]
  ·simp [ChangeMaps.setBlock, hlt]
  ·constructor
   ·rintro ⟨e, he, e1, e2⟩
    simp only [Array.toList_push, List.mem_append, List.mem_singleton] at he
    rcases he with he | rfl
    ·obtain ⟨p, hp, q⟩ := (h2 k' v').1 ⟨e, he, e1, e2⟩
     exact ⟨p, by simp [hp], q⟩
    ·exact ⟨(k, v), by simp, e1.symm, e2.symm⟩
   ·rintro ⟨p, hp, e1, e2⟩
    rcases List.mem_append.1 hp with hp | hp
    ·obtain ⟨e, he, q⟩ := (h2 k' v').2 ⟨p, hp, e1, e2⟩
     exact ⟨e, by simp [he], q⟩
    ·simp only [List.mem_singleton] at hp
     subst hp
     exact ⟨_, by simp; exact .inr rfl, e1.symm, e2.symm⟩
  ·refine ⟨rfl, rfl, rfl, by simp [ChangeMaps.setBlock], fun j _ hn => ?_⟩
   simp only [ChangeMaps.setBlock]
   exact Array.getElem?_setIfInBounds_ne (fun e => hn e.symm)
 ·exfalso
  obtain ⟨p, hp, e1, _⟩ := (h2 e0.key e0.val).1 ⟨e0, List.mem_of_getElem? f2, rfl, rfl⟩
  rw [f3] at e1
  exact hn p hp (Value.int.inj e1).2.symm
theorem mapI_at {w : World} {b : Nat} {l : List (Int × Int)} (h : MapI w b l) (hl : ∀ p ∈ l, I64 p.1) (k v : Int) (hk : I64 k) (hm : (k, v) ∈ l) (hu2 : ∀ p ∈ l, p.1 = k → p.2 = v) :
  (Instr.lookup 122 (.map (some b)) (.int .i64 k) true).run Tryz.prog w = .ok (.tuple #[.int .i64 v, .bool true]) w := by
 obtain ⟨es, clock, h1, h2⟩ := h
 have hu := Tryz.underlying122
 have hkey := keyI hk
 have hck := ik.check w es.isEmpty hkey
 rcases ik.find w hkey es.toList (fun e he => by
  obtain ⟨p, hp, e1, _⟩ := (h2 e.key e.val).1 ⟨e, he, rfl, rfl⟩
  rw [e1]; exact ⟨_, keyI (hl p hp)⟩) with ⟨f1, f2⟩ | ⟨i, e0, f1, f2, f3⟩
 ·exfalso
  obtain ⟨e, he, e1, _⟩ := (h2 (.int .i64 k) (.int .i64 v)).2 ⟨(k, v), hm, rfl, rfl⟩
  exact f2 e he e1
 ·obtain ⟨p, hp, e1, e2⟩ := (h2 e0.key e0.val).1 ⟨e0, List.mem_of_getElem? f2, rfl, rfl⟩
  rw [f3] at e1
  have := hu2 p hp (Value.int.inj e1).2.symm
  simp [Instr.lookup, run_underlying hu, MapKept.run_getObj_map h1, hck, f1, Result.andThen, e2, this]
theorem mapI_no {w : World} {b : Nat} {l : List (Int × Int)} (h : MapI w b l) (hl : ∀ p ∈ l, I64 p.1) (k : Int) (hk : I64 k) (hn : ∀ p ∈ l, p.1 ≠ k) :
  (Instr.lookup 122 (.map (some b)) (.int .i64 k) true).run Tryz.prog w = .ok (.tuple #[.int .i64 0, .bool false]) w := by
 obtain ⟨es, clock, h1, h2⟩ := h
 have hu := Tryz.underlying122
 have hkey := keyI hk
 have hck := ik.check w es.isEmpty hkey
 rcases ik.find w hkey es.toList (fun e he => by
  obtain ⟨p, hp, e1, _⟩ := (h2 e.key e.val).1 ⟨e, he, rfl, rfl⟩
  rw [e1]; exact ⟨_, keyI (hl p hp)⟩) with ⟨f1, f2⟩ | ⟨i, e0, f1, f2, f3⟩
 ·simp [Instr.lookup, run_underlying hu, MapKept.run_getObj_map h1, hck, f1, izero, Result.andThen]
 ·exfalso
  obtain ⟨p, hp, e1, _⟩ := (h2 e0.key e0.val).1 ⟨e0, List.mem_of_getElem? f2, rfl, rfl⟩
  rw [f3] at e1
  exact hn p hp (Value.int.inj e1).2.symm
def gearC (c : Cfg) (d m : Int) : Gr := ⟨c.fl, c.tv, c.lv, c.op, c.dw, c.ld, c.cl, c.ho, d, m⟩
def gearM (c : Cfg) (mode : Int) : Gr := if mode = 1 then gearC c c.rs 0 else if mode = 2 then gearC c c.pa 0 else gearC c c.dw c.ho
theorem gearM_ok {c : Cfg} (h : CfgOk c) (mode : Int) : GrOk (gearM c mode) := by
 obtain ⟨⟨a1, a2⟩, ⟨b1, b2⟩, ⟨d1, d2⟩, ⟨e1, e2⟩, ⟨f1, f2⟩, ⟨g1, g2⟩, ⟨i1, i2⟩, ⟨j1, j2⟩, ⟨k1, k2, k3, k4⟩⟩ := h.tm
 have h1 := h.fl1
 have h2 := h.fl2
 unfold gearM GrOk gearC
 split
 ·dsimp only; omega
 ·split <;> (dsimp only; omega)
theorem ws_any {ops : Array Oper} {rest : List Oper} {op : Oper} {a : Act} {W : World} {Q : Exit → Act → World → Prop} (ty : TypeId) (x y : Operand) (cs : Array Value) (b : Nat) (old : Array Value) (t : TypeId) (ho : op.op = .store ty x y) (hw : Region.wanted op (yielded ops a.tmps) = true)
  (hx : a.eval x = .pointer (some ⟨b, 0, none⟩)) (hy : a.eval y = .agg cs) (hc : BlockIs W b old t) (hi : (Tryz.prog.info? ty).map (·.size) = some cs.size) (ho2 : old.size = cs.size) (h1 : cs.all (·.oneCell') = true)
  (h : wpList Tryz.prog ops Q rest (a.put op.dst undef) (W.setRow b cs)) : wpList Tryz.prog ops Q (op :: rest) a W :=
 BigFrame.wpList_want hw fun K hK => wp_store_row ty x y ho b cs hx hy t old hc hi ho2 h1 (hK _ _ h)
def dwL (c : Cfg) : List (Int × Int) := [(1, c.rs), (2, c.pa), (3, c.dw)]
theorem i64s (n : Int) (h : 0 ≤ n ∧ n ≤ 10) : I64 n := ⟨by omega, by omega⟩
set_option maxRecDepth 100000 in
theorem aGear_ok (c : Cfg) (vs vw : Value) (mode : Int) (w : World) (h : CfgOk c) (hm : CfgM w c vs vw) (h0 : mode = 0 ∨ mode = 1 ∨ mode = 2) :
  Calls Tryz.prog 25 #[.agg (cfgA c vs vw), .int .i64 mode] w fun e w' => e = .returned (.tuple #[.agg (grA (gearM c mode)), .int .i64 0]) ∧ Below w.heap.size w w' := by
 have hC := (BlockIs.new w (cfgA c vs vw) 33).alloc (.cells #[.int .i64 0, .int .i64 0, .int .i64 0, .int .i64 0, .int .i64 0, .int .i64 0, .int .i64 0, .int .i64 0, .int .i64 0, .int .i64 0] 91)
 have hR := BlockIs.new (w.alloc (.cells (cfgA c vs vw) 33)) #[.int .i64 0, .int .i64 0, .int .i64 0, .int .i64 0, .int .i64 0, .int .i64 0, .int .i64 0, .int .i64 0, .int .i64 0, .int .i64 0] 91
 simp only [World.size_alloc] at hR
 have HB := (((Below.refl w.heap.size w).alloc (by exact Nat.le_refl _) (.cells (cfgA c vs vw) 33)).alloc (by simp only [World.size_alloc]; omega) (.cells #[.int .i64 0, .int .i64 0, .int .i64 0, .int .i64 0, .int .i64 0, .int .i64 0, .int .i64 0, .int .i64 0, .int .i64 0, .int .i64 0] 91))
 have hm1 := hm.below HB
 have HM1 := Lib.hid hm1
 have HC := Lib.hid hC
 have HR := Lib.hid hR
 have hrange := cfg_range hC
 clear hC hR hm hm1
 go_enter Tryz.func25, Tryz.ntmps25
 go_wp2_with ((with_reducible show wpList _ _ _ _ _ _); refine wl_cfg (.tmp 2) c vs vw w.heap.size 0 rfl rfl rfl hrange ?_)
 refine (kCheck_ok c vs vw _ h HM1.out).mono ?_; rintro e w1 ⟨rfl, hb1⟩
 have hC1 := HC.out.kept hb1
 have hR1 := HR.out.kept hb1
 have HB1 := HB.trans (hb1.mono HB.size)
 have hs1 := hR1.lt
 clear hrange HC HR HM1 hb1 HB
 have c0 := hC1.cell (i := 0) (v := .int .i64 c.fl) rfl
 have c1 := hC1.cell (i := 1) (v := .int .i64 c.ca) rfl
 have c2 := hC1.cell (i := 2) (v := .int .i64 c.pk) rfl
 have c4 := hC1.cell (i := 4) (v := .int .i64 c.tv) rfl
 have c5 := hC1.cell (i := 5) (v := .int .i64 c.lv) rfl
 have c6 := hC1.cell (i := 6) (v := .int .i64 c.op) rfl
 have c7 := hC1.cell (i := 7) (v := .int .i64 c.dw) rfl
 have c8 := hC1.cell (i := 8) (v := .int .i64 c.ld) rfl
 have c9 := hC1.cell (i := 9) (v := .int .i64 c.cl) rfl
 have c10 := hC1.cell (i := 10) (v := .int .i64 c.ho) rfl
 have c11 := hC1.cell (i := 11) (v := .int .i64 c.rs) rfl
 have c12 := hC1.cell (i := 12) (v := .int .i64 c.pa) rfl
 have hC2 := hC1.alloc (.cells #[.int .i64 c.fl, .int .i64 c.tv, .int .i64 c.lv, .int .i64 c.op, .int .i64 c.dw, .int .i64 c.ld, .int .i64 c.cl, .int .i64 c.ho, .int .i64 c.dw, .int .i64 c.ho] 91)
 have hR2 := hR1.alloc (.cells #[.int .i64 c.fl, .int .i64 c.tv, .int .i64 c.lv, .int .i64 c.op, .int .i64 c.dw, .int .i64 c.ld, .int .i64 c.cl, .int .i64 c.ho, .int .i64 c.dw, .int .i64 c.ho] 91)
 have hG2 := BlockIs.new w1 #[.int .i64 c.fl, .int .i64 c.tv, .int .i64 c.lv, .int .i64 c.op, .int .i64 c.dw, .int .i64 c.ld, .int .i64 c.cl, .int .i64 c.ho, .int .i64 c.dw, .int .i64 c.ho] 91
 have HB2 := HB1.alloc HB1.size (.cells #[.int .i64 c.fl, .int .i64 c.tv, .int .i64 c.lv, .int .i64 c.op, .int .i64 c.dw, .int .i64 c.ld, .int .i64 c.cl, .int .i64 c.ho, .int .i64 c.dw, .int .i64 c.ho] 91)
 have hC3 := hC2.alloc (.map #[] 0)
 have hR3 := hR2.alloc (.map #[] 0)
 have hG3 := hG2.alloc (.map #[] 0)
 have HB3 := HB2.alloc (by have := HB1.size; simp only [World.size_alloc]; omega) (.map #[] 0)
 have m0 := mapI_new (w1.alloc (.cells #[.int .i64 c.fl, .int .i64 c.tv, .int .i64 c.lv, .int .i64 c.op, .int .i64 c.dw, .int .i64 c.ld, .int .i64 c.cl, .int .i64 c.ho, .int .i64 c.dw, .int .i64 c.ho] 91))
 rw [World.size_alloc] at m0
 have n1 : ∀ p ∈ ([] : List (Int × Int)), I64 p.1 := by simp
 obtain ⟨w4, r4, m4, t4⟩ := mapI_ins m0 n1 1 c.rs (i64s 1 (by omega)) (by simp)
 obtain ⟨w5, r5, m5, t5⟩ := mapI_ins m4 (by intro p hp; simp at hp; subst hp; exact i64s 1 (by omega)) 2 c.pa (i64s 2 (by omega)) (by intro p hp; simp at hp; subst hp; simp)
 obtain ⟨w6, r6, m6, t6⟩ := mapI_ins m5 (by intro p hp; simp at hp; rcases hp with hp | hp <;> subst hp <;> exact i64s _ (by simp)) 3 c.dw (i64s 3 (by omega)) (by intro p hp; simp at hp; rcases hp with hp | hp <;> subst hp <;> simp)
 have M6 : MapI w6 (w1.heap.size + 1) (dwL c) := m6
 have d6 : ∀ p ∈ dwL c, I64 p.1 := by intro p hp; simp [dwL] at hp; rcases hp with hp | hp | hp <;> subst hp <;> exact i64s _ (by simp)
 have z4 : w.heap.size ≠ w1.heap.size + 1 := by have := HB1.size; omega
 have hC4 := t4.at hC3 z4
 have hC5 := t5.at hC4 z4
 have hR6 := t6.at (t5.at (t4.at hR3 (by omega)) (by omega)) (by omega)
 have hG6 := t6.at (t5.at (t4.at hG3 (by omega)) (by omega)) (by omega)
 have q1 : ∀ k, k < w.heap.size → ¬ (k = w1.heap.size + 1) := by intro k hk; have := HB1.size; omega
 have HB6 := ((HB3.trans (t4.below (by have := HB3.size; omega) q1)).trans (t5.below (by have := HB3.size; have := t4.size; omega) q1)).trans (t6.below (by have := HB3.size; have := t4.size; have := t5.size; omega) q1)
 have x11 := hC3.cell (i := 11) (v := .int .i64 c.rs) rfl
 have x12 := hC4.cell (i := 12) (v := .int .i64 c.pa) rfl
 have x7 := hC5.cell (i := 7) (v := .int .i64 c.dw) rfl
 have hmm := @run_makeMap Tryz.prog
 have HR6 := Lib.hid hR6
 have HG6 := Lib.hid hG6
 have HB7 := Lib.hid HB6
 have HM6 := Lib.hid M6
 have HD6 := Lib.hid d6
 clear hC1 hR1 HB1 hC2 hR2 hG2 HB2 hC3 hR3 hG3 HB3 m0 m4 m5 m6 M6 d6 t4 t5 t6 n1 hC4 hC5 hR6 hG6 HB6
 clear q1 z4
 rcases h0 with e | e | e <;> subst e
 ·have hlk := mapI_no HM6.out HD6.out 0 (i64s 0 (by omega)) (by intro p hp; simp [dwL] at hp; rcases hp with hp | hp | hp <;> subst hp <;> simp)
  have hg0 : w6.rangeAt w1.heap.size 0 (grA (gearC c c.dw c.ho)).toList := block_sub HG6.out 0 10
  have hR7 := HR6.out.row (grA (gearC c c.dw c.ho))
  have HB8 := Lib.hid (below_setRow HB7.out (by omega : w.heap.size ≤ w.heap.size + 1) (grA (gearC c c.dw c.ho)))
  have HR7 := Lib.hid hR7
  clear hR7 HB7 HM6 HD6 HG6
  go_wp2_with (first
   | ((with_reducible show wpList _ _ _ _ _ _); refine wl_any 91 (.tmp 7) (grA (gearC c c.dw c.ho)).toList w1.heap.size 0 _ Tryz.underlying91 rfl gear_info ?_ ?_ ?_ hg0 ?_; rfl; rfl; rfl)
   | ((with_reducible show wpList _ _ _ _ _ _); refine ws_any 91 (.tmp 4) (.tmp 54) (grA (gearC c c.dw c.ho)) (w.heap.size + 1) _ 91 ?_ ?_ ?_ ?_ HR6.out gear_info rfl (by simp [grA, Value.oneCell']) ?_; rfl; rfl; rfl; rfl))
  refine bodyPost_ret (v := .tuple #[.agg (grA (gearC c c.dw c.ho)), .int .i64 0]) ?_ rfl ⟨rfl, HB8.out⟩
  refine res_cell_tmp (p := 4) (u := 5) ?_ _ _ (w.heap.size + 1) 91 (grA (gearC c c.dw c.ho)) _ ?_ HR7.out Tryz.underlying91 rfl gear_info
  all_goals rfl
 ·have hlk := mapI_at HM6.out HD6.out 1 c.rs (i64s 1 (by omega)) (by simp [dwL]) (by intro p hp; simp [dwL] at hp; rcases hp with hp | hp | hp <;> subst hp <;> simp)
  have hG7 := (HG6.out.set 8 (.int .i64 c.rs)).set 9 (.int .i64 0)
  have hR7 := (HR6.out.other (a := ⟨w1.heap.size, 8, none⟩) (by show w.heap.size + 1 ≠ w1.heap.size; omega) (.int .i64 c.rs)).other (a := ⟨w1.heap.size, 9, none⟩) (by show w.heap.size + 1 ≠ w1.heap.size; omega) (.int .i64 0)
  have g8 := HG6.out.cell (i := 8) (v := .int .i64 c.dw) rfl
  have f8 := HG6.out.free 8
  have g9 := (HG6.out.set 8 (.int .i64 c.rs)).cell (i := 9) (v := .int .i64 c.ho) rfl
  have f9 := (HG6.out.set 8 (.int .i64 c.rs)).free 9
  have hg0 : ((w6.setCell ⟨w1.heap.size, 8, none⟩ (.int .i64 c.rs)).setCell ⟨w1.heap.size, 9, none⟩ (.int .i64 0)).rangeAt w1.heap.size 0 (grA (gearC c c.rs 0)).toList := block_sub hG7 0 10
  have hR8 := hR7.row (grA (gearC c c.rs 0))
  have hB8 := HB7.out.trans (((Turn.refl (fun k => k = w1.heap.size) w6).setCell rfl 8 (.int .i64 c.rs)).setCell rfl 9 (.int .i64 0) |>.below (B := w.heap.size) (by have := HB7.out.size; omega) (by intro k hk; omega))
  have HB8 := Lib.hid (below_setRow hB8 (by omega : w.heap.size ≤ w.heap.size + 1) (grA (gearC c c.rs 0)))
  have HR7 := Lib.hid hR7
  have HR8 := Lib.hid hR8
  clear hR7 hR8 hB8 hG7 HB7 HM6 HD6 HG6 HR6
  go_wp2_with (first
   | ((with_reducible show wpList _ _ _ _ _ _); refine wl_any 91 (.tmp 7) (grA (gearC c c.rs 0)).toList w1.heap.size 0 _ Tryz.underlying91 rfl gear_info ?_ ?_ ?_ hg0 ?_; rfl; rfl; rfl)
   | ((with_reducible show wpList _ _ _ _ _ _); refine ws_any 91 (.tmp 4) (.tmp 54) (grA (gearC c c.rs 0)) (w.heap.size + 1) _ 91 ?_ ?_ ?_ ?_ HR7.out gear_info rfl (by simp [grA, Value.oneCell']) ?_; rfl; rfl; rfl; rfl))
  refine bodyPost_ret (v := .tuple #[.agg (grA (gearC c c.rs 0)), .int .i64 0]) ?_ rfl ⟨rfl, HB8.out⟩
  refine res_cell_tmp (p := 4) (u := 5) ?_ _ _ (w.heap.size + 1) 91 (grA (gearC c c.rs 0)) _ ?_ HR8.out Tryz.underlying91 rfl gear_info
  all_goals rfl
 ·have hlk := mapI_at HM6.out HD6.out 2 c.pa (i64s 2 (by omega)) (by simp [dwL]) (by intro p hp; simp [dwL] at hp; rcases hp with hp | hp | hp <;> subst hp <;> simp)
  have hG7 := (HG6.out.set 8 (.int .i64 c.pa)).set 9 (.int .i64 0)
  have hR7 := (HR6.out.other (a := ⟨w1.heap.size, 8, none⟩) (by show w.heap.size + 1 ≠ w1.heap.size; omega) (.int .i64 c.pa)).other (a := ⟨w1.heap.size, 9, none⟩) (by show w.heap.size + 1 ≠ w1.heap.size; omega) (.int .i64 0)
  have g8 := HG6.out.cell (i := 8) (v := .int .i64 c.dw) rfl
  have f8 := HG6.out.free 8
  have g9 := (HG6.out.set 8 (.int .i64 c.pa)).cell (i := 9) (v := .int .i64 c.ho) rfl
  have f9 := (HG6.out.set 8 (.int .i64 c.pa)).free 9
  have hg0 : ((w6.setCell ⟨w1.heap.size, 8, none⟩ (.int .i64 c.pa)).setCell ⟨w1.heap.size, 9, none⟩ (.int .i64 0)).rangeAt w1.heap.size 0 (grA (gearC c c.pa 0)).toList := block_sub hG7 0 10
  have hR8 := hR7.row (grA (gearC c c.pa 0))
  have hB8 := HB7.out.trans (((Turn.refl (fun k => k = w1.heap.size) w6).setCell rfl 8 (.int .i64 c.pa)).setCell rfl 9 (.int .i64 0) |>.below (B := w.heap.size) (by have := HB7.out.size; omega) (by intro k hk; omega))
  have HB8 := Lib.hid (below_setRow hB8 (by omega : w.heap.size ≤ w.heap.size + 1) (grA (gearC c c.pa 0)))
  have HR7 := Lib.hid hR7
  have HR8 := Lib.hid hR8
  clear hR7 hR8 hB8 hG7 HB7 HM6 HD6 HG6 HR6
  go_wp2_with (first
   | ((with_reducible show wpList _ _ _ _ _ _); refine wl_any 91 (.tmp 7) (grA (gearC c c.pa 0)).toList w1.heap.size 0 _ Tryz.underlying91 rfl gear_info ?_ ?_ ?_ hg0 ?_; rfl; rfl; rfl)
   | ((with_reducible show wpList _ _ _ _ _ _); refine ws_any 91 (.tmp 4) (.tmp 54) (grA (gearC c c.pa 0)) (w.heap.size + 1) _ 91 ?_ ?_ ?_ ?_ HR7.out gear_info rfl (by simp [grA, Value.oneCell']) ?_; rfl; rfl; rfl; rfl))
  refine bodyPost_ret (v := .tuple #[.agg (grA (gearC c c.pa 0)), .int .i64 0]) ?_ rfl ⟨rfl, HB8.out⟩
  refine res_cell_tmp (p := 4) (u := 5) ?_ _ _ (w.heap.size + 1) 91 (grA (gearC c c.pa 0)) _ ?_ HR8.out Tryz.underlying91 rfl gear_info
  all_goals rfl
end Go.Proofs.YtfnifgppblbjhaaGreatDoor
