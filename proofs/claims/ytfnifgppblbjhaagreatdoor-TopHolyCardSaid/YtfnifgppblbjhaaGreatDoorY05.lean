/- Part of the proof of TopHoly. -/
import Derived.Test.YtfnifgppblbjhaaGreatDoorY01
import Derived.Test.YtfnifgppblbjhaaGreatDoorY04
import Derived.BigQuiet
import Derived.Deep.QuietTactic
import Derived.Deep.RegionHeld3
namespace Go.Proofs.YtfnifgppblbjhaaGreatDoor
set_option maxHeartbeats 8000000
open Go Go.RowKit Go.Shelf
attribute [local go_sem] Oper.semAt_some
set_option linter.unusedVariables false
set_option linter.unusedSimpArgs false
theorem ny_10000 : ny 10000 = ny 9999 + ylen 9999 := ny_succ 9999
theorem hnum_last {h m d : Int} (c : HMay h m d) : ny 3762 ≤ hnum h m d ∧ hnum h m d < ny 9999 + ylen 9999 := by
 obtain ⟨hy, _⟩ := c.yr
 have b := hnum_bd c
 have s := ny_succ h
 have e := ny_10000
 have a1 := (ny_mono (a := 3762) (b := h) (by omega) (by have := hy.2; omega) hy.1).1
 have a2 := (ny_mono (a := h + 1) (b := 10000) (by have := hy.1; omega) (by omega) (by have := hy.2; omega)).1
 have := hy.1
 have := hy.2
 omega
theorem hof_no (n : Int) (w : World) (c : n < ny 3762 ∨ ny 9999 + ylen 9999 ≤ n) :
  Calls Tryz.prog 28 #[.int .i64 n] w fun e w' => e = .returned (.tuple #[.agg #[.int .i64 0, .int .i64 0, .int .i64 0], .int .i64 41]) ∧ Below w.heap.size w w' := by
 have y1 : Yr 3762 := by unfold Yr; omega
 have y2 : Yr 9999 := by unfold Yr; omega
 have b1 := ny_bd 3762 (by omega) (by omega)
 have b2 := ny_bd 9999 (by omega) (by omega)
 have b3 := ylen_bd y2
 by_cases c1 : n < ny 3762
 ·clear c
  go_enter Tryz.func28, Tryz.ntmps28
  go_wp2_with fail
  refine (newyear_ok _ _ y1).mono ?_; rintro e w' ⟨rfl, rfl⟩
  go_wp2_with fail
  refine (newyear_ok _ _ y2).mono ?_; rintro e w' ⟨rfl, rfl⟩
  go_wp2_with fail
  refine (len_ok _ _ y2).mono ?_; rintro e w' ⟨rfl, rfl⟩
  go_wp2
  refine bodyPost_ret (v := .tuple #[.agg #[.int .i64 0, .int .i64 0, .int .i64 0], .int .i64 41]) (by simp [results, Tryz.results28, go_sem]) rfl ⟨rfl, ?_⟩
  exact ((Below.refl _ _).alloc (Nat.le_refl _) _).alloc (by simp) _
 ·have c2 : ny 9999 + ylen 9999 ≤ n := by omega
  have c1 : ny 3762 ≤ n := by omega
  clear c
  go_enter Tryz.func28, Tryz.ntmps28
  go_wp2_with fail
  refine (newyear_ok _ _ y1).mono ?_; rintro e w' ⟨rfl, rfl⟩
  go_wp2_with fail
  refine (newyear_ok _ _ y2).mono ?_; rintro e w' ⟨rfl, rfl⟩
  go_wp2_with fail
  refine (len_ok _ _ y2).mono ?_; rintro e w' ⟨rfl, rfl⟩
  go_wp2
  refine bodyPost_ret (v := .tuple #[.agg #[.int .i64 0, .int .i64 0, .int .i64 0], .int .i64 41]) (by simp [results, Tryz.results28, go_sem]) rfl ⟨rfl, ?_⟩
  exact ((Below.refl _ _).alloc (Nat.le_refl _) _).alloc (by simp) _
theorem hof_ok (h m d : Int) (w : World) (c : HMay h m d) :
  Calls Tryz.prog 28 #[.int .i64 (hnum h m d)] w fun e w' => e = .returned (.tuple #[.agg #[.int .i64 h, .int .i64 m, .int .i64 d], .int .i64 0]) ∧ Below w.heap.size w w' := by
 have hnl := hnum_last c
 have hnb := hnum_bd c
 have y1 : Yr 3762 := by unfold Yr; omega
 have y2 : Yr 9999 := by unfold Yr; omega
 have b1 := ny_bd 3762 (by omega) (by omega)
 have b2 := ny_bd 9999 (by omega) (by omega)
 have b3 := ylen_bd y2
 have e1 : hnum h m d = ny h + hcum h (m.toNat - 1) + d - 1 := rfl
 obtain ⟨hy, m1, m2, d1, d2⟩ := c.yr
 generalize hnum h m d = n at *
 have E1 := Lib.hid e1
 clear e1
 obtain ⟨c1, c2⟩ := c
 have nb := ny_bd h (by have := hy.1; omega) (by have := hy.2; omega)
 refine (callsIn_wide (n := 5)).1 ?_
 refine callsIn_of_wp_marks Tryz.func28 rfl trivial ?_ rfl
 simp only [Tryz.ntmps28, List.size_toArray, List.length_cons, List.length_nil, Nat.reduceAdd, Nat.reduceSub, Array.replicate_succ, Array.replicate_zero, List.push_toArray, List.append_toArray, List.nil_append, List.cons_append]
 refine wpIn_wide.2 ?_
 go_wp2_with fail
 refine (newyear_ok _ _ y1).mono ?_; rintro e w' ⟨rfl, rfl⟩
 go_wp2_with fail
 refine (newyear_ok _ _ y2).mono ?_; rintro e w' ⟨rfl, rfl⟩
 go_wp2_with fail
 refine (len_ok _ _ y2).mono ?_; rintro e w' ⟨rfl, rfl⟩
 go_wp2_with fail
 have hB0 : Below w.heap.size w (((w.alloc (.cells #[.int .i64 n] 3)).alloc (.cells #[.int .i64 0, .int .i64 0, .int .i64 0] 97)).alloc (.cells #[.int .i64 (3762 + (n - ny 3762) / 386)] 3)) := (((Below.refl _ w).alloc (Nat.le_refl _) _).alloc (by simp) _).alloc (by simp; omega) _
 have kN : BlockIs (((w.alloc (.cells #[.int .i64 n] 3)).alloc (.cells #[.int .i64 0, .int .i64 0, .int .i64 0] 97)).alloc (.cells #[.int .i64 (3762 + (n - ny 3762) / 386)] 3)) w.heap.size #[.int .i64 n] 3 := ((BlockIs.new w _ _).alloc _).alloc _
 have kR : BlockIs (((w.alloc (.cells #[.int .i64 n] 3)).alloc (.cells #[.int .i64 0, .int .i64 0, .int .i64 0] 97)).alloc (.cells #[.int .i64 (3762 + (n - ny 3762) / 386)] 3)) (w.heap.size + 1) #[.int .i64 0, .int .i64 0, .int .i64 0] 97 := by
  have := (BlockIs.new (w.alloc (.cells #[.int .i64 n] 3)) #[.int .i64 0, .int .i64 0, .int .i64 0] 97).alloc (.cells #[.int .i64 (3762 + (n - ny 3762) / 386)] 3)
  rwa [World.size_alloc] at this
 have kH : BlockIs (((w.alloc (.cells #[.int .i64 n] 3)).alloc (.cells #[.int .i64 0, .int .i64 0, .int .i64 0] 97)).alloc (.cells #[.int .i64 (3762 + (n - ny 3762) / 386)] 3)) (w.heap.size + 1 + 1) #[.int .i64 (3762 + (n - ny 3762) / 386)] 3 := by
  have := BlockIs.new ((w.alloc (.cells #[.int .i64 n] 3)).alloc (.cells #[.int .i64 0, .int .i64 0, .int .i64 0] 97)) #[.int .i64 (3762 + (n - ny 3762) / 386)] 3
  rwa [World.size_alloc, World.size_alloc] at this
 generalize (((w.alloc (.cells #[.int .i64 n] 3)).alloc (.cells #[.int .i64 0, .int .i64 0, .int .i64 0] 97)).alloc (.cells #[.int .i64 (3762 + (n - ny 3762) / 386)] 3)) = W0 at *
 have hm := ny_mono (a := 3762) (b := h) (by omega) (by have := hy.2; omega) hy.1
 have hyl := ylen_bd hy
 have hy1 := hy.1
 have hy2 := hy.2
 have hq : (n - ny 3762) / 386 ≤ h - 3762 ∧ 0 ≤ (n - ny 3762) / 386 := by omega
 go_loopw [11] (fun f wr => ∃ H : Int, 3762 ≤ H ∧ H ≤ h ∧ BlockIs wr (w.heap.size + 1 + 1) #[.int .i64 H] 3 ∧ BlockIs wr w.heap.size #[.int .i64 n] 3 ∧ BlockIs wr (w.heap.size + 1) #[.int .i64 0, .int .i64 0, .int .i64 0] 97 ∧ Below w.heap.size w wr) (fun _ wr => (h - intOf ((wr.cell? ⟨w.heap.size + 1 + 1, 0, none⟩).getD undef)).toNat)
 case atStart => exact ⟨_, by omega, by omega, kH, kN, kR, hB0⟩
 case round =>
  obtain ⟨H, H1, H2, kH, kN, kR, hB⟩ := hrel
  have yH : Yr H := ⟨by omega, by omega⟩
  have q1 : wr.cell? ⟨w.heap.size + 1 + 1, 0, none⟩ = some (.int .i64 H) := kH.cell rfl
  have q2 : wr.cell? ⟨w.heap.size, 0, none⟩ = some (.int .i64 n) := kN.cell rfl
  have f1 := kH.free 0
  have nbH := ny_bd H (by omega) (by omega)
  have nlH := ylen_bd yH
  by_cases hlt : n < ny H + ylen H
  ·have hmH := ny_mono (a := H) (b := h) (by omega) (by omega) H2
   have e := hyear_one yH hy (n := n) (by omega) hlt (by omega) (by omega)
   subst e
   have hzr := kH.lt
   have q3 : (wr.alloc (.cells #[.int .i64 H, .int .i64 0, .int .i64 0] 97)).cell? ⟨w.heap.size + 1 + 1, 0, none⟩ = some (.int .i64 H) := (kH.alloc _).cell rfl
   go_wp2_with fail
   refine (newyear_ok _ _ yH).mono ?_; rintro e w' ⟨rfl, rfl⟩
   go_wp2_with fail
   refine (len_ok _ _ yH).mono ?_; rintro e w' ⟨rfl, rfl⟩
   go_wp2_with fail
   refine (hmonths_any _ _ _).mono ?_; rintro e w' ⟨rfl, rfl⟩
   go_wp2_with fail
   have bD : BlockIs (((wr.alloc (.cells #[.int .i64 H, .int .i64 0, .int .i64 0] 97)).alloc (.cells #[.int .i64 H] 3)).alloc (.cells #[.int .i64 (ny H)] 3)) wr.heap.size #[.int .i64 H, .int .i64 0, .int .i64 0] 97 := ((BlockIs.new wr _ _).alloc _).alloc _
   have bH : BlockIs (((wr.alloc (.cells #[.int .i64 H, .int .i64 0, .int .i64 0] 97)).alloc (.cells #[.int .i64 H] 3)).alloc (.cells #[.int .i64 (ny H)] 3)) (wr.heap.size + 1) #[.int .i64 H] 3 := by
    have := (BlockIs.new (wr.alloc (.cells #[.int .i64 H, .int .i64 0, .int .i64 0] 97)) #[.int .i64 H] 3).alloc (.cells #[.int .i64 (ny H)] 3)
    rwa [World.size_alloc] at this
   have bF : BlockIs (((wr.alloc (.cells #[.int .i64 H, .int .i64 0, .int .i64 0] 97)).alloc (.cells #[.int .i64 H] 3)).alloc (.cells #[.int .i64 (ny H)] 3)) (wr.heap.size + 1 + 1) #[.int .i64 (ny H)] 3 := by
    have := BlockIs.new ((wr.alloc (.cells #[.int .i64 H, .int .i64 0, .int .i64 0] 97)).alloc (.cells #[.int .i64 H] 3)) #[.int .i64 (ny H)] 3
    rwa [World.size_alloc, World.size_alloc] at this
   have bN : BlockIs (((wr.alloc (.cells #[.int .i64 H, .int .i64 0, .int .i64 0] 97)).alloc (.cells #[.int .i64 H] 3)).alloc (.cells #[.int .i64 (ny H)] 3)) w.heap.size #[.int .i64 n] 3 := ((kN.alloc _).alloc _).alloc _
   have bR : BlockIs (((wr.alloc (.cells #[.int .i64 H, .int .i64 0, .int .i64 0] 97)).alloc (.cells #[.int .i64 H] 3)).alloc (.cells #[.int .i64 (ny H)] 3)) (w.heap.size + 1) #[.int .i64 0, .int .i64 0, .int .i64 0] 97 := ((kR.alloc _).alloc _).alloc _
   have bY : BlockIs (((wr.alloc (.cells #[.int .i64 H, .int .i64 0, .int .i64 0] 97)).alloc (.cells #[.int .i64 H] 3)).alloc (.cells #[.int .i64 (ny H)] 3)) (w.heap.size + 1 + 1) #[.int .i64 H] 3 := ((kH.alloc _).alloc _).alloc _
   have hW1 : Below w.heap.size w (((wr.alloc (.cells #[.int .i64 H, .int .i64 0, .int .i64 0] 97)).alloc (.cells #[.int .i64 H] 3)).alloc (.cells #[.int .i64 (ny H)] 3)) := ((hB.alloc (by omega) _).alloc (by simp; omega) _).alloc (by simp; omega) _
   have hz1 : (((wr.alloc (.cells #[.int .i64 H, .int .i64 0, .int .i64 0] 97)).alloc (.cells #[.int .i64 H] 3)).alloc (.cells #[.int .i64 (ny H)] 3)).heap.size = wr.heap.size + 3 := by simp
   generalize (((wr.alloc (.cells #[.int .i64 H, .int .i64 0, .int .i64 0] 97)).alloc (.cells #[.int .i64 H] 3)).alloc (.cells #[.int .i64 (ny H)] 3)) = W1 at *
   refine (wpIn_wide (n := 5)).1 ?_
   refine' range_own (F := Fence.wide) (n := 5) rfl (by omega) (gf := 122) (lb := #[.pointer (some ⟨wr.heap.size + 1 + 1, 0, none⟩), .pointer (some ⟨wr.heap.size + 1, 0, none⟩)]) rfl trivial (enters_of Tryz.func122 (by kernel_rfl) rfl)
    (hmonths_own 4 (by omega) (wr.heap.size + 1 + 1) (wr.heap.size + 1) H (ny H) yH (by omega) (by omega) W1 bF bH (by omega)) K2.t (K2.b (by omega) (by omega)) (Below.refl _ _) (fun _ => rfl) (by omega)
    (fun pre W => ((∃ M D : Int, BlockIs W wr.heap.size #[.int .i64 H, .int .i64 M, .int .i64 D] 97 ∧ (m ≤ (pre.length : Int) → M = m ∧ D = d)) ∧ BlockIs W w.heap.size #[.int .i64 n] 3 ∧ BlockIs W (w.heap.size + 1 + 1) #[.int .i64 H] 3 ∧ BlockIs W (w.heap.size + 1) #[.int .i64 0, .int .i64 0, .int .i64 0] 97) ∧ Below w.heap.size w W)
    (fun c pre W => (c = .exit 2 ∧ BlockIs W wr.heap.size #[.int .i64 H, .int .i64 m, .int .i64 d] 97 ∧ BlockIs W (w.heap.size + 1) #[.int .i64 0, .int .i64 0, .int .i64 0] 97) ∧ Below w.heap.size w W)
    ?own ?ownx ?st ?start _ ?assign ?body ?done ?stop
   case own => exact OwnFrom.and (Own.from (fun s A B row hs hg hr => by obtain ⟨⟨M, D, h1, h2⟩, h3, h4, h5⟩ := hs; exact ⟨⟨M, D, h1.grown hg hr, h2⟩, h3.grown hg hr, h4.grown hg hr, h5.grown hg hr⟩) _) (ownFrom_below (Nat.le_refl _) (by omega))
   case ownx => exact fun c => OwnFrom.and (Own.from (fun s A B row hs hg hr => ⟨hs.1, hs.2.1.grown hg hr, hs.2.2.grown hg hr⟩) _) (ownFrom_below (Nat.le_refl _) (by omega))
   case st =>
    rintro pre W v ⟨⟨⟨M, D, h1, h2⟩, h3, h4, h5⟩, h6⟩
    exact ⟨⟨⟨M, D, h1.other (a := ⟨wr.heap.size + 1 + 1, 0, none⟩) (by show _ ≠ wr.heap.size + 1 + 1; omega) _, h2⟩, h3.other (a := ⟨wr.heap.size + 1 + 1, 0, none⟩) (by show _ ≠ wr.heap.size + 1 + 1; omega) _, h4.other (a := ⟨wr.heap.size + 1 + 1, 0, none⟩) (by show _ ≠ wr.heap.size + 1 + 1; omega) _, h5.other (a := ⟨wr.heap.size + 1 + 1, 0, none⟩) (by show _ ≠ wr.heap.size + 1 + 1; omega) _⟩, h6.setCell (p := ⟨wr.heap.size + 1 + 1, 0, none⟩) (by show w.heap.size ≤ wr.heap.size + 1 + 1; omega) _⟩
   case start => exact ⟨⟨⟨0, 0, bD, by simp; omega⟩, bN, bY, bR⟩, hW1⟩
   case assign =>
    intro l x W K hK
    gi_wp2
    exact hK
   case body =>
    rintro l pre x W ⟨⟨⟨M, D, hD, hMD⟩, hN, hH, hR⟩, hB⟩ ⟨rfl, hx⟩
    have q1 : W.cell? ⟨w.heap.size, 0, none⟩ = some (.int .i64 n) := hN.cell rfl
    have q2 : W.cell? ⟨w.heap.size + 1 + 1, 0, none⟩ = some (.int .i64 H) := hH.cell rfl
    have r0 : W.cell? ⟨wr.heap.size, 0, none⟩ = some (.int .i64 H) := hD.cell rfl
    have r1 : W.cell? ⟨wr.heap.size, 1, none⟩ = some (.int .i64 M) := hD.cell rfl
    have r2 : W.cell? ⟨wr.heap.size, 2, none⟩ = some (.int .i64 D) := hD.cell rfl
    have f0 := hD.free 0
    have f1 := hD.free 1
    have f2 := hD.free 2
    have bd := hcum_bd yH x (by omega)
    by_cases hlt : n < ny H + hcum H x
    ·have hmx : m ≤ (x : Int) := by
      by_cases c : (x : Int) < m
      ·have := hcum_mono H x (m.toNat - 1) (by omega); omega
      ·omega
     obtain ⟨rfl, rfl⟩ := hMD (by simpa using hmx)
     gi_wp2
     exact ⟨KeepsOthers.refl _, ⟨rfl, hD, hR⟩, hB⟩
    ·have hxm : (x : Int) < m := by
      by_cases c : (x : Int) < m
      ·exact c
      ·have := hcum_mono H m.toNat x (by omega); omega
     by_cases hd0 : 0 < hdim H (x + 1)
     ·gi_wp2_with (refine ⟨trivial, ?_⟩; gi_at_call 64; refine (CallsIn.inRound l (callsIn_wide.2 (hdays_any _ _ _))).mono ?_; rintro e w' ⟨rfl, rfl⟩)
      have FIN : KeepsOthers W ((W.setCell ⟨wr.heap.size, 1, none⟩ (.int .i64 ((x : Int) + 1))).setCell ⟨wr.heap.size, 2, none⟩ (.int .i64 (IntKind.i64.wrap (IntKind.i64.wrap (n - (ny H + hcum H x)) + 1)))).drew ∧ K2 (wr.heap.size + 1 + 1) (wr.heap.size + 1) W ((W.setCell ⟨wr.heap.size, 1, none⟩ (.int .i64 ((x : Int) + 1))).setCell ⟨wr.heap.size, 2, none⟩ (.int .i64 (IntKind.i64.wrap (IntKind.i64.wrap (n - (ny H + hcum H x)) + 1)))).drew ∧
        ((∃ M D : Int, BlockIs ((W.setCell ⟨wr.heap.size, 1, none⟩ (.int .i64 ((x : Int) + 1))).setCell ⟨wr.heap.size, 2, none⟩ (.int .i64 (IntKind.i64.wrap (IntKind.i64.wrap (n - (ny H + hcum H x)) + 1)))).drew wr.heap.size #[.int .i64 H, .int .i64 M, .int .i64 D] 97 ∧ (m ≤ ((List.range x ++ [x]).length : Int) → M = m ∧ D = d)) ∧ BlockIs ((W.setCell ⟨wr.heap.size, 1, none⟩ (.int .i64 ((x : Int) + 1))).setCell ⟨wr.heap.size, 2, none⟩ (.int .i64 (IntKind.i64.wrap (IntKind.i64.wrap (n - (ny H + hcum H x)) + 1)))).drew w.heap.size #[.int .i64 n] 3 ∧
         BlockIs ((W.setCell ⟨wr.heap.size, 1, none⟩ (.int .i64 ((x : Int) + 1))).setCell ⟨wr.heap.size, 2, none⟩ (.int .i64 (IntKind.i64.wrap (IntKind.i64.wrap (n - (ny H + hcum H x)) + 1)))).drew (w.heap.size + 1 + 1) #[.int .i64 H] 3 ∧ BlockIs ((W.setCell ⟨wr.heap.size, 1, none⟩ (.int .i64 ((x : Int) + 1))).setCell ⟨wr.heap.size, 2, none⟩ (.int .i64 (IntKind.i64.wrap (IntKind.i64.wrap (n - (ny H + hcum H x)) + 1)))).drew (w.heap.size + 1) #[.int .i64 0, .int .i64 0, .int .i64 0] 97) ∧
         Below w.heap.size w ((W.setCell ⟨wr.heap.size, 1, none⟩ (.int .i64 ((x : Int) + 1))).setCell ⟨wr.heap.size, 2, none⟩ (.int .i64 (IntKind.i64.wrap (IntKind.i64.wrap (n - (ny H + hcum H x)) + 1)))).drew := by
       generalize hv : IntKind.i64.wrap (IntKind.i64.wrap (n - (ny H + hcum H x)) + 1) = v
       have hv2 : m ≤ (x : Int) + 1 → v = d := by
        intro c
        have e : m.toNat - 1 = x := by omega
        have := E1.out
        rw [e] at this
        rw [← hv, IntWalk.i64_in (n - (ny H + hcum H x)) ⟨by omega, by omega⟩, IntWalk.i64_in _ ⟨by omega, by omega⟩]
        omega
       have hB2 := (hB.setCell (p := ⟨wr.heap.size, 1, none⟩) (by show w.heap.size ≤ wr.heap.size; omega) (.int .i64 ((x : Int) + 1))).setCell (p := ⟨wr.heap.size, 2, none⟩) (by show w.heap.size ≤ wr.heap.size; omega) (.int .i64 v)
       have oth : ∀ {b : Nat} {cs : Array Value} {t : TypeId}, BlockIs W b cs t → b ≠ wr.heap.size → BlockIs ((W.setCell ⟨wr.heap.size, 1, none⟩ (.int .i64 ((x : Int) + 1))).setCell ⟨wr.heap.size, 2, none⟩ (.int .i64 v)).drew b cs t := fun hb hne => ((hb.other (a := ⟨wr.heap.size, 1, none⟩) hne _).other (a := ⟨wr.heap.size, 2, none⟩) hne _).drew
       refine ⟨((KeepsOthers.setCell _ _ _).trans (KeepsOthers.setCell _ _ _)).trans (KeepsOthers.drew _), ⟨by simp, ?_, ?_⟩, ⟨⟨(x : Int) + 1, v, ((hD.set 1 _).set 2 _).drew, ?_⟩, oth hN (by omega), oth hH (by omega), oth hR (by omega)⟩, hB2.drew⟩
       ·exact (Below.heap_setCell _ _ _ _ (by show _ ≠ wr.heap.size; omega)).trans (Below.heap_setCell _ _ _ _ (by show _ ≠ wr.heap.size; omega))
       ·exact (Below.heap_setCell _ _ _ _ (by show _ ≠ wr.heap.size; omega)).trans (Below.heap_setCell _ _ _ _ (by show _ ≠ wr.heap.size; omega))
       ·intro c
        simp at c
        exact ⟨by omega, hv2 (by omega)⟩
      gi_region
      all_goals exact FIN
     ·gi_wp2_with (refine ⟨trivial, ?_⟩; gi_at_call 64; refine (CallsIn.inRound l (callsIn_wide.2 (hdays_any _ _ _))).mono ?_; rintro e w' ⟨rfl, rfl⟩)
      refine ⟨KeepsOthers.refl _, K2.refl _ _ _, ⟨⟨M, D, hD, ?_⟩, hN, hH, hR⟩, hB⟩
      intro c
      simp at c
      have e : m = (x : Int) + 1 := by omega
      rw [← e] at hd0
      omega
   case done =>
    rintro D xs W hDl rfl ⟨⟨⟨M, D', hD, hMD⟩, hN, hH, hR⟩, hB⟩ hK
    obtain ⟨rfl, rfl⟩ := hMD (by simp; omega)
    have q1 : W.cell? ⟨wr.heap.size, 0, none⟩ = some (.int .i64 H) := hD.cell rfl
    have q2 : W.cell? ⟨wr.heap.size, 1, none⟩ = some (.int .i64 M) := hD.cell rfl
    have q3 : W.cell? ⟨wr.heap.size, 2, none⟩ = some (.int .i64 D') := hD.cell rfl
    have f0 := hR.free 0
    have f1 := hR.free 1
    have f2 := hR.free 2
    have z0 : W.cell? ⟨w.heap.size + 1, 0, none⟩ = some (.int .i64 0) := hR.cell rfl
    have z1 : W.cell? ⟨w.heap.size + 1, 1, none⟩ = some (.int .i64 0) := hR.cell rfl
    have z2 : W.cell? ⟨w.heap.size + 1, 2, none⟩ = some (.int .i64 0) := hR.cell rfl
    gi_wp2
    go_wp2
    have hB2 := ((hB.setCell (p := ⟨w.heap.size + 1, 0, none⟩) (by show w.heap.size ≤ w.heap.size + 1; omega) (.int .i64 H)).setCell (p := ⟨w.heap.size + 1, 1, none⟩) (by show w.heap.size ≤ w.heap.size + 1; omega) (.int .i64 M)).setCell (p := ⟨w.heap.size + 1, 2, none⟩) (by show w.heap.size ≤ w.heap.size + 1; omega) (.int .i64 D')
    have hK2 := (((KeepsOthers.setCell W ⟨w.heap.size + 1, 0, none⟩ (.int .i64 H)).trans (KeepsOthers.setCell _ ⟨w.heap.size + 1, 1, none⟩ (.int .i64 M))).trans (KeepsOthers.setCell _ ⟨w.heap.size + 1, 2, none⟩ (.int .i64 D'))).same D _ hK rfl
    have bE := (((hR.set 0 (.int .i64 H)).set 1 (.int .i64 M)).set 2 (.int .i64 D')).grown (grownBy_putObj' _ D (.deferred none)) (fun r e => by cases e; exact ⟨_, hK2, rfl⟩)
    generalize ((W.setCell ⟨w.heap.size + 1, 0, none⟩ (.int .i64 H)).setCell ⟨w.heap.size + 1, 1, none⟩ (.int .i64 M)).setCell ⟨w.heap.size + 1, 2, none⟩ (.int .i64 D') = WE at *
    have e0 : (WE.putObj D (.deferred none)).cell? ⟨w.heap.size + 1, 0, none⟩ = some (.int .i64 H) := bE.cell rfl
    have e1 : (WE.putObj D (.deferred none)).cell? ⟨w.heap.size + 1, 1, none⟩ = some (.int .i64 M) := bE.cell rfl
    have e2 : (WE.putObj D (.deferred none)).cell? ⟨w.heap.size + 1, 2, none⟩ = some (.int .i64 D') := bE.cell rfl
    refine ⟨by simp, .inl ⟨_, _, rfl, run_takeDeferred hK2, ?_⟩⟩
    refine ⟨.tuple #[.agg #[.int .i64 H, .int .i64 M, .int .i64 D'], .int .i64 0], ?_, rfl, hB2.trans (belowK_b (w := w) (Nat.le_refl _) WE D _ _ (by omega) hK2 rfl rfl)⟩
    simp [results, Tryz.results28, go_sem, e0, e1, e2]
   case stop =>
    rintro D c pre W hDl _ ⟨⟨rfl, hD, hR⟩, hB⟩ hK
    have q1 : W.cell? ⟨wr.heap.size, 0, none⟩ = some (.int .i64 H) := hD.cell rfl
    have q2 : W.cell? ⟨wr.heap.size, 1, none⟩ = some (.int .i64 m) := hD.cell rfl
    have q3 : W.cell? ⟨wr.heap.size, 2, none⟩ = some (.int .i64 d) := hD.cell rfl
    have f0 := hR.free 0
    have f1 := hR.free 1
    have f2 := hR.free 2
    have z0 : W.cell? ⟨w.heap.size + 1, 0, none⟩ = some (.int .i64 0) := hR.cell rfl
    have z1 : W.cell? ⟨w.heap.size + 1, 1, none⟩ = some (.int .i64 0) := hR.cell rfl
    have z2 : W.cell? ⟨w.heap.size + 1, 2, none⟩ = some (.int .i64 0) := hR.cell rfl
    gi_wp2
    go_wp2
    have hB2 := ((hB.setCell (p := ⟨w.heap.size + 1, 0, none⟩) (by show w.heap.size ≤ w.heap.size + 1; omega) (.int .i64 H)).setCell (p := ⟨w.heap.size + 1, 1, none⟩) (by show w.heap.size ≤ w.heap.size + 1; omega) (.int .i64 m)).setCell (p := ⟨w.heap.size + 1, 2, none⟩) (by show w.heap.size ≤ w.heap.size + 1; omega) (.int .i64 d)
    have hK2 := (((KeepsOthers.setCell W ⟨w.heap.size + 1, 0, none⟩ (.int .i64 H)).trans (KeepsOthers.setCell _ ⟨w.heap.size + 1, 1, none⟩ (.int .i64 m))).trans (KeepsOthers.setCell _ ⟨w.heap.size + 1, 2, none⟩ (.int .i64 d))).same D _ hK rfl
    have bE := (((hR.set 0 (.int .i64 H)).set 1 (.int .i64 m)).set 2 (.int .i64 d)).grown (grownBy_putObj' _ D (.deferred none)) (fun r e => by cases e; exact ⟨_, hK2, rfl⟩)
    generalize ((W.setCell ⟨w.heap.size + 1, 0, none⟩ (.int .i64 H)).setCell ⟨w.heap.size + 1, 1, none⟩ (.int .i64 m)).setCell ⟨w.heap.size + 1, 2, none⟩ (.int .i64 d) = WE at *
    have e0 : (WE.putObj D (.deferred none)).cell? ⟨w.heap.size + 1, 0, none⟩ = some (.int .i64 H) := bE.cell rfl
    have e1 : (WE.putObj D (.deferred none)).cell? ⟨w.heap.size + 1, 1, none⟩ = some (.int .i64 m) := bE.cell rfl
    have e2 : (WE.putObj D (.deferred none)).cell? ⟨w.heap.size + 1, 2, none⟩ = some (.int .i64 d) := bE.cell rfl
    refine ⟨by simp, .inl ⟨_, _, rfl, run_takeDeferred hK2, ?_⟩⟩
    refine ⟨.tuple #[.agg #[.int .i64 H, .int .i64 m, .int .i64 d], .int .i64 0], ?_, rfl, hB2.trans (belowK_b (w := w) (Nat.le_refl _) WE D _ _ (by omega) hK2 rfl rfl)⟩
    simp [results, Tryz.results28, go_sem, e0, e1, e2]
  ·go_wp2_with fail
   refine (newyear_ok _ _ yH).mono ?_; rintro e w' ⟨rfl, rfl⟩
   go_wp2_with fail
   refine (len_ok _ _ yH).mono ?_; rintro e w' ⟨rfl, rfl⟩
   go_wp2
   have hlt2 : H < h := by
    by_cases c : H = h
    ·subst c; omega
    ·omega
   go_round
   case rel => exact ⟨H + 1, by omega, by omega, kH.set 0 _, kN.other (a := ⟨w.heap.size + 1 + 1, 0, none⟩) (by show w.heap.size ≠ w.heap.size + 1 + 1; omega) _, kR.other (a := ⟨w.heap.size + 1 + 1, 0, none⟩) (by show w.heap.size + 1 ≠ w.heap.size + 1 + 1; omega) _, hB.setCell (p := ⟨w.heap.size + 1 + 1, 0, none⟩) (by show w.heap.size ≤ w.heap.size + 1 + 1; omega) _⟩
   case measure =>
    have hc := (kH.set 0 (.int .i64 (H + 1))).cell (i := 0) (v := .int .i64 (H + 1)) rfl
    simp [intOf, q1, hc]; omega
end Go.Proofs.YtfnifgppblbjhaaGreatDoor
namespace Go.Proofs.YtfnifgppblbjhaaGreatDoor
set_option maxHeartbeats 8000000
open Go.RowKit
set_option linter.unusedVariables false
set_option linter.unusedSimpArgs false
theorem hof_at {n h m d : Int} (w : World) (c : HMay h m d) (e : hnum h m d = n) :
  Calls Tryz.prog 28 #[.int .i64 n] w fun e w' => e = .returned (.tuple #[.agg #[.int .i64 h, .int .i64 m, .int .i64 d], .int .i64 0]) ∧ Below w.heap.size w w' := by
 have := hof_ok h m d w c
 rwa [e] at this
end Go.Proofs.YtfnifgppblbjhaaGreatDoor
namespace Go.Proofs.YtfnifgppblbjhaaGreatDoor
set_option maxHeartbeats 8000000
open Go.RowKit
theorem hdim_zero {h m : Int} (hy : Yr h) (h1 : 1 ≤ m) (h2 : m ≤ 13) (c : hdim h m = 0) : m = 6 ∧ leapB h = false := by
 rw [hdim_yr hy m h1 h2] at c
 split at c
 ·assumption
 ·split at c <;> omega
theorem hnext {h m d : Int} (c : HMay h m d) (hl : hnum h m d < ny 9999 + ylen 9999 - 1) : ∃ h2 m2 d2, HMay h2 m2 d2 ∧ hnum h2 m2 d2 = hnum h m d + 1 ∧
  ((d2 = d + 1 ∧ h2 = h ∧ m2 = m) ∨ (d2 = 1 ∧ d = hdim h m ∧ m2 = 1 ∧ h2 = h + 1 ∧ m = 13) ∨ (d2 = 1 ∧ d = hdim h m ∧ 1 < m2 ∧ h2 = h ∧ m2 = m + 1) ∨ (d2 = 1 ∧ d = hdim h m ∧ m2 = 7 ∧ h2 = h ∧ m = 5 ∧ leapB h = false)) := by
 obtain ⟨hy, m1, m2, d1, d2⟩ := c.yr
 obtain ⟨c1, c2⟩ := c
 have s := hcum_step h m m1
 by_cases hd : d < hdim h m
 ·refine ⟨h, m, d + 1, ⟨by omega, by omega⟩, by unfold hnum; omega, .inl ⟨rfl, rfl, rfl⟩⟩
 ·have hd : d = hdim h m := by omega
  by_cases h13 : m = 13
  ·subst h13
   have t := hcum_13 hy
   have e : (13 : Int).toNat = 13 := rfl
   rw [e] at s
   rw [s] at t
   have hh : h < 9999 := by
    by_cases q : h < 9999
    ·exact q
    ·have : h = 9999 := by have := hy.2; omega
     subst this
     unfold hnum at hl
     rw [e] at hl
     omega
   have y2 : Yr (h + 1) := ⟨by have := hy.1; omega, by omega⟩
   have e1 := (hdim_0 y2).1
   refine ⟨h + 1, 1, 1, ⟨by omega, by omega⟩, ?_, .inr (.inl ⟨rfl, hd, rfl, rfl, rfl⟩)⟩
   have n := ny_succ h
   unfold hnum
   have z : hcum (h + 1) ((1 : Int).toNat - 1) = 0 := rfl
   rw [e, z]
   omega
  ·have s2 := hcum_step h (m + 1) (by omega)
   have e : (m + 1).toNat - 1 = m.toNat := by omega
   rw [e] at s2
   by_cases z : hdim h (m + 1) = 0
   ·obtain ⟨z1, z2⟩ := hdim_zero hy (by omega) (by omega) z
    have m5 : m = 5 := by omega
    subst m5
    have e7 := (hdim_0 hy).2.2.2.2.2.2.1
    refine ⟨h, 7, 1, ⟨by omega, by omega⟩, ?_, .inr (.inr (.inr ⟨rfl, hd, rfl, rfl, rfl, z2⟩))⟩
    unfold hnum
    rw [show (7 : Int).toNat - 1 = ((5 : Int) + 1).toNat from rfl]
    omega
   ·have b := hdim_ge h (m + 1)
    refine ⟨h, m + 1, 1, ⟨by omega, by omega⟩, ?_, .inr (.inr (.inl ⟨rfl, hd, by omega, rfl, rfl⟩))⟩
    unfold hnum
    rw [e]
    omega
theorem hcum_7 {h : Int} (hy : Yr h) : hcum h 7 = ylen h - 177 := by
 obtain ⟨e1, e2, e3, e4, e5, e6, e7, e8, e9, e10, e11, e12, e13⟩ := hdim_0 hy
 have t := hcum_13 hy
 have f : hcum h 13 = hcum h 7 + hdim h 8 + hdim h 9 + hdim h 10 + hdim h 11 + hdim h 12 + hdim h 13 := rfl
 omega
def holyV (m d : Int) : Int × Bool :=
 if m = 1 ∧ d = 1 then (1, false) else if m = 1 ∧ d = 2 then (1, false) else if m = 1 ∧ d = 10 then (2, false)
 else if m = 1 ∧ d = 15 then (3, false) else if m = 1 ∧ d = 16 then (3, true) else if m = 1 ∧ d = 22 then (4, false) else if m = 1 ∧ d = 23 then (4, true)
 else if m = 8 ∧ d = 15 then (5, false) else if m = 8 ∧ d = 16 then (5, true) else if m = 8 ∧ d = 21 then (6, false) else if m = 8 ∧ d = 22 then (6, true)
 else if m = 10 ∧ d = 6 then (7, false) else if m = 10 ∧ d = 7 then (7, true) else (0, false)
def kindV (m d : Int) (ab : Bool) : Int := if (ab || !(holyV m d).2) = true then (holyV m d).1 else 0
def rows13 : List ((Int × Int) × (Int × Bool)) := [((1, 1), (1, false)), ((1, 2), (1, false)), ((1, 10), (2, false)), ((1, 15), (3, false)), ((1, 16), (3, true)), ((1, 22), (4, false)), ((1, 23), (4, true)), ((8, 15), (5, false)), ((8, 16), (5, true)), ((8, 21), (6, false)), ((8, 22), (6, true)), ((10, 6), (7, false)), ((10, 7), (7, true))]
def row13 (j : Nat) : (Int × Int) × (Int × Bool) := rows13.getD j ((0, 0), (0, false))
theorem thirteenN {j : Nat} (h : j < 13) : j = 0 ∨ j = 1 ∨ j = 2 ∨ j = 3 ∨ j = 4 ∨ j = 5 ∨ j = 6 ∨ j = 7 ∨ j = 8 ∨ j = 9 ∨ j = 10 ∨ j = 11 ∨ j = 12 := by omega
theorem row_apart {i j : Nat} (hi : i < 13) (hj : j < 13) (h : (row13 i).1 = (row13 j).1) : i = j := by
 rcases thirteenN hi with e | e | e | e | e | e | e | e | e | e | e | e | e <;> subst e <;> (rcases thirteenN hj with e | e | e | e | e | e | e | e | e | e | e | e | e <;> subst e <;> first | rfl | (exfalso; revert h; decide))
theorem row_val {j : Nat} (hj : j < 13) : holyV (row13 j).1.1 (row13 j).1.2 = (row13 j).2 := by
 rcases thirteenN hj with e | e | e | e | e | e | e | e | e | e | e | e | e <;> subst e <;> decide
theorem row_none {m d : Int} (h : ∀ j, j < 13 → (row13 j).1 ≠ (m, d)) : holyV m d = (0, false) := by
 have g : ∀ j, j < 13 → ¬ (m = (row13 j).1.1 ∧ d = (row13 j).1.2) := fun j hj c => h j hj (by rw [c.1, c.2])
 have g0 := g 0 (by omega); have g1 := g 1 (by omega); have g2 := g 2 (by omega); have g3 := g 3 (by omega); have g4 := g 4 (by omega)
 have g5 := g 5 (by omega); have g6 := g 6 (by omega); have g7 := g 7 (by omega); have g8 := g 8 (by omega); have g9 := g 9 (by omega)
 have g10 := g 10 (by omega); have g11 := g 11 (by omega); have g12 := g 12 (by omega)
 simp only [row13, rows13, List.getD_cons_zero, List.getD_cons_succ] at g0 g1 g2 g3 g4 g5 g6 g7 g8 g9 g10 g11 g12
 unfold holyV
 rw [if_neg g0, if_neg g1, if_neg g2, if_neg g3, if_neg g4, if_neg g5, if_neg g6, if_neg g7, if_neg g8, if_neg g9, if_neg g10, if_neg g11, if_neg g12]
end Go.Proofs.YtfnifgppblbjhaaGreatDoor
