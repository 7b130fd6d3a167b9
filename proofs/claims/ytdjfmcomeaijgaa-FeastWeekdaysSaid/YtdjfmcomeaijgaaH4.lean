/- hebrew.Of: the date of a number. -/
import Derived.Test.YtdjfmcomeaijgaaH3
namespace Go.Proofs.Ytdjfmcomeaijgaa
open Go Go.RowKit Go.Shelf
attribute [local go_sem] Oper.semAt_some
set_option linter.unusedVariables false
set_option linter.unusedSimpArgs false

theorem ny_10000 : ny 10000 = ny 9999 + ylen 9999 := ny_succ 9999
theorem hnum_last {h m d : Int} (c : HMay h m d) : ny 3762 ≤ hnum h m d ∧ hnum h m d < ny 9999 + ylen 9999 := by
  obtain ⟨hy, _⟩ := c.yr
  have b := hnum_bd c
  have s := ny_succ h
  have e := ny_10000
  have a1 := (ny_mono (a := 3762) (b := h) (by omega) (by have := hy.2; omega) hy.1).1
  have a2 := (ny_mono (a := h + 1) (b := 10000) (by have := hy.1; omega) (by omega) (by have := hy.2; omega)).1
  have := hy.1
  have := hy.2
  omega

set_option maxHeartbeats 1000000 in
theorem hof_no (n : Int) (w : World) (c : n < ny 3762 ∨ ny 9999 + ylen 9999 ≤ n) :
    Calls Try.prog 43 #[.int .i64 n] w fun e w' => e = .returned (.tuple #[.agg #[.int .i64 0, .int .i64 0, .int .i64 0], .int .i64 41]) ∧ Below w.heap.size w w' := by
  have y1 : Yr 3762 := by unfold Yr; omega
  have y2 : Yr 9999 := by unfold Yr; omega
  have b1 := ny_bd 3762 (by omega) (by omega)
  have b2 := ny_bd 9999 (by omega) (by omega)
  have b3 := ylen_bd y2
  by_cases c1 : n < ny 3762
  · clear c
    go_enter Try.func43, Try.ntmps43
    go_wp2_with fail
    refine (newyear_ok _ _ y1).mono ?_; rintro e w' ⟨rfl, rfl⟩
    go_wp2_with fail
    refine (newyear_ok _ _ y2).mono ?_; rintro e w' ⟨rfl, rfl⟩
    go_wp2_with fail
    refine (len_ok _ _ y2).mono ?_; rintro e w' ⟨rfl, rfl⟩
    go_wp2
    refine bodyPost_ret (v := .tuple #[.agg #[.int .i64 0, .int .i64 0, .int .i64 0], .int .i64 41]) (by simp [results, Try.results43, go_sem]) rfl ⟨rfl, ?_⟩
    exact ((Below.refl _ _).alloc (Nat.le_refl _) _).alloc (by simp) _
  · have c2 : ny 9999 + ylen 9999 ≤ n := by omega
    have c1 : ny 3762 ≤ n := by omega
    clear c
    go_enter Try.func43, Try.ntmps43
    go_wp2_with fail
    refine (newyear_ok _ _ y1).mono ?_; rintro e w' ⟨rfl, rfl⟩
    go_wp2_with fail
    refine (newyear_ok _ _ y2).mono ?_; rintro e w' ⟨rfl, rfl⟩
    go_wp2_with fail
    refine (len_ok _ _ y2).mono ?_; rintro e w' ⟨rfl, rfl⟩
    go_wp2
    refine bodyPost_ret (v := .tuple #[.agg #[.int .i64 0, .int .i64 0, .int .i64 0], .int .i64 41]) (by simp [results, Try.results43, go_sem]) rfl ⟨rfl, ?_⟩
    exact ((Below.refl _ _).alloc (Nat.le_refl _) _).alloc (by simp) _

set_option maxHeartbeats 2000000 in
theorem hof_ok (h m d : Int) (w : World) (c : HMay h m d) :
    Calls Try.prog 43 #[.int .i64 (hnum h m d)] w fun e w' => e = .returned (.tuple #[.agg #[.int .i64 h, .int .i64 m, .int .i64 d], .int .i64 0]) ∧ Below w.heap.size w w' := by
  have hnl := hnum_last c
  have hnb := hnum_bd c
  have y1 : Yr 3762 := by unfold Yr; omega
  have y2 : Yr 9999 := by unfold Yr; omega
  have b1 := ny_bd 3762 (by omega) (by omega)
  have b2 := ny_bd 9999 (by omega) (by omega)
  have b3 := ylen_bd y2
  have e1 : hnum h m d = ny h + hcum h (m.toNat - 1) + d - 1 := rfl
  obtain ⟨hy, m1, m2, d1, d2⟩ := c.yr
  generalize hnum h m d = n at *
  have E1 := Lib.hid e1
  clear e1
  obtain ⟨c1, c2⟩ := c
  have nb := ny_bd h (by have := hy.1; omega) (by have := hy.2; omega)
  refine (callsIn_wide (n := 5)).1 ?_
  refine callsIn_of_wp_marks Try.func43 rfl trivial ?_ rfl
  simp only [Try.ntmps43, List.size_toArray, List.length_cons, List.length_nil, Nat.reduceAdd, Nat.reduceSub, Array.replicate_succ, Array.replicate_zero, List.push_toArray, List.append_toArray, List.nil_append, List.cons_append]
  refine wpIn_wide.2 ?_
  go_wp2_with fail
  refine (newyear_ok _ _ y1).mono ?_; rintro e w' ⟨rfl, rfl⟩
  go_wp2_with fail
  refine (newyear_ok _ _ y2).mono ?_; rintro e w' ⟨rfl, rfl⟩
  go_wp2_with fail
  refine (len_ok _ _ y2).mono ?_; rintro e w' ⟨rfl, rfl⟩
  go_wp2_with fail
  have hB0 : Below w.heap.size w (((w.alloc (.cells #[.int .i64 n] 3)).alloc (.cells #[.int .i64 0, .int .i64 0, .int .i64 0] 36)).alloc (.cells #[.int .i64 (3762 + (n - ny 3762) / 386)] 3)) := (((Below.refl _ w).alloc (Nat.le_refl _) _).alloc (by simp) _).alloc (by simp; omega) _
  have kN : BlockIs (((w.alloc (.cells #[.int .i64 n] 3)).alloc (.cells #[.int .i64 0, .int .i64 0, .int .i64 0] 36)).alloc (.cells #[.int .i64 (3762 + (n - ny 3762) / 386)] 3)) w.heap.size #[.int .i64 n] 3 := ((BlockIs.new w _ _).alloc _).alloc _
  have kR : BlockIs (((w.alloc (.cells #[.int .i64 n] 3)).alloc (.cells #[.int .i64 0, .int .i64 0, .int .i64 0] 36)).alloc (.cells #[.int .i64 (3762 + (n - ny 3762) / 386)] 3)) (w.heap.size + 1) #[.int .i64 0, .int .i64 0, .int .i64 0] 36 := by
    have := (BlockIs.new (w.alloc (.cells #[.int .i64 n] 3)) #[.int .i64 0, .int .i64 0, .int .i64 0] 36).alloc (.cells #[.int .i64 (3762 + (n - ny 3762) / 386)] 3)
    rwa [World.size_alloc] at this
  have kH : BlockIs (((w.alloc (.cells #[.int .i64 n] 3)).alloc (.cells #[.int .i64 0, .int .i64 0, .int .i64 0] 36)).alloc (.cells #[.int .i64 (3762 + (n - ny 3762) / 386)] 3)) (w.heap.size + 1 + 1) #[.int .i64 (3762 + (n - ny 3762) / 386)] 3 := by
    have := BlockIs.new ((w.alloc (.cells #[.int .i64 n] 3)).alloc (.cells #[.int .i64 0, .int .i64 0, .int .i64 0] 36)) #[.int .i64 (3762 + (n - ny 3762) / 386)] 3
    rwa [World.size_alloc, World.size_alloc] at this
  generalize (((w.alloc (.cells #[.int .i64 n] 3)).alloc (.cells #[.int .i64 0, .int .i64 0, .int .i64 0] 36)).alloc (.cells #[.int .i64 (3762 + (n - ny 3762) / 386)] 3)) = W0 at *
  have hm := ny_mono (a := 3762) (b := h) (by omega) (by have := hy.2; omega) hy.1
  have hyl := ylen_bd hy
  have hy1 := hy.1
  have hy2 := hy.2
  have hq : (n - ny 3762) / 386 ≤ h - 3762 ∧ 0 ≤ (n - ny 3762) / 386 := by omega
  go_loopw [11] (fun f wr => ∃ H : Int, 3762 ≤ H ∧ H ≤ h ∧ BlockIs wr (w.heap.size + 1 + 1) #[.int .i64 H] 3 ∧ BlockIs wr w.heap.size #[.int .i64 n] 3 ∧ BlockIs wr (w.heap.size + 1) #[.int .i64 0, .int .i64 0, .int .i64 0] 36 ∧ Below w.heap.size w wr) (fun _ wr => (h - intOf ((wr.cell? ⟨w.heap.size + 1 + 1, 0, none⟩).getD undef)).toNat)
  case atStart => exact ⟨_, by omega, by omega, kH, kN, kR, hB0⟩
  case round =>
    obtain ⟨H, H1, H2, kH, kN, kR, hB⟩ := hrel
    have yH : Yr H := ⟨by omega, by omega⟩
    have q1 : wr.cell? ⟨w.heap.size + 1 + 1, 0, none⟩ = some (.int .i64 H) := kH.cell rfl
    have q2 : wr.cell? ⟨w.heap.size, 0, none⟩ = some (.int .i64 n) := kN.cell rfl
    have f1 := kH.free 0
    have nbH := ny_bd H (by omega) (by omega)
    have nlH := ylen_bd yH
    by_cases hlt : n < ny H + ylen H
    · have hmH := ny_mono (a := H) (b := h) (by omega) (by omega) H2
      have e := hyear_one yH hy (n := n) (by omega) hlt (by omega) (by omega)
      subst e
      have hzr := kH.lt
      have q3 : (wr.alloc (.cells #[.int .i64 H, .int .i64 0, .int .i64 0] 36)).cell? ⟨w.heap.size + 1 + 1, 0, none⟩ = some (.int .i64 H) := (kH.alloc _).cell rfl
      go_wp2_with fail
      refine (newyear_ok _ _ yH).mono ?_; rintro e w' ⟨rfl, rfl⟩
      go_wp2_with fail
      refine (len_ok _ _ yH).mono ?_; rintro e w' ⟨rfl, rfl⟩
      go_wp2_with fail
      refine (hmonths_any _ _ _).mono ?_; rintro e w' ⟨rfl, rfl⟩
      go_wp2_with fail
      have bD : BlockIs (((wr.alloc (.cells #[.int .i64 H, .int .i64 0, .int .i64 0] 36)).alloc (.cells #[.int .i64 H] 3)).alloc (.cells #[.int .i64 (ny H)] 3)) wr.heap.size #[.int .i64 H, .int .i64 0, .int .i64 0] 36 := ((BlockIs.new wr _ _).alloc _).alloc _
      have bH : BlockIs (((wr.alloc (.cells #[.int .i64 H, .int .i64 0, .int .i64 0] 36)).alloc (.cells #[.int .i64 H] 3)).alloc (.cells #[.int .i64 (ny H)] 3)) (wr.heap.size + 1) #[.int .i64 H] 3 := by
        have := (BlockIs.new (wr.alloc (.cells #[.int .i64 H, .int .i64 0, .int .i64 0] 36)) #[.int .i64 H] 3).alloc (.cells #[.int .i64 (ny H)] 3)
        rwa [World.size_alloc] at this
      have bF : BlockIs (((wr.alloc (.cells #[.int .i64 H, .int .i64 0, .int .i64 0] 36)).alloc (.cells #[.int .i64 H] 3)).alloc (.cells #[.int .i64 (ny H)] 3)) (wr.heap.size + 1 + 1) #[.int .i64 (ny H)] 3 := by
        have := BlockIs.new ((wr.alloc (.cells #[.int .i64 H, .int .i64 0, .int .i64 0] 36)).alloc (.cells #[.int .i64 H] 3)) #[.int .i64 (ny H)] 3
        rwa [World.size_alloc, World.size_alloc] at this
      have bN : BlockIs (((wr.alloc (.cells #[.int .i64 H, .int .i64 0, .int .i64 0] 36)).alloc (.cells #[.int .i64 H] 3)).alloc (.cells #[.int .i64 (ny H)] 3)) w.heap.size #[.int .i64 n] 3 := ((kN.alloc _).alloc _).alloc _
      have bR : BlockIs (((wr.alloc (.cells #[.int .i64 H, .int .i64 0, .int .i64 0] 36)).alloc (.cells #[.int .i64 H] 3)).alloc (.cells #[.int .i64 (ny H)] 3)) (w.heap.size + 1) #[.int .i64 0, .int .i64 0, .int .i64 0] 36 := ((kR.alloc _).alloc _).alloc _
      have bY : BlockIs (((wr.alloc (.cells #[.int .i64 H, .int .i64 0, .int .i64 0] 36)).alloc (.cells #[.int .i64 H] 3)).alloc (.cells #[.int .i64 (ny H)] 3)) (w.heap.size + 1 + 1) #[.int .i64 H] 3 := ((kH.alloc _).alloc _).alloc _
      have hW1 : Below w.heap.size w (((wr.alloc (.cells #[.int .i64 H, .int .i64 0, .int .i64 0] 36)).alloc (.cells #[.int .i64 H] 3)).alloc (.cells #[.int .i64 (ny H)] 3)) := ((hB.alloc (by omega) _).alloc (by simp; omega) _).alloc (by simp; omega) _
      have hz1 : (((wr.alloc (.cells #[.int .i64 H, .int .i64 0, .int .i64 0] 36)).alloc (.cells #[.int .i64 H] 3)).alloc (.cells #[.int .i64 (ny H)] 3)).heap.size = wr.heap.size + 3 := by simp
      generalize (((wr.alloc (.cells #[.int .i64 H, .int .i64 0, .int .i64 0] 36)).alloc (.cells #[.int .i64 H] 3)).alloc (.cells #[.int .i64 (ny H)] 3)) = W1 at *
      refine (wpIn_wide (n := 5)).1 ?_
      refine' range_own (F := Fence.wide) (n := 5) rfl (by omega) (gf := 74) (lb := #[.pointer (some ⟨wr.heap.size + 1 + 1, 0, none⟩), .pointer (some ⟨wr.heap.size + 1, 0, none⟩)]) rfl trivial (enters_of Try.func74 (by kernel_rfl) rfl)
        (hmonths_own 4 (by omega) (wr.heap.size + 1 + 1) (wr.heap.size + 1) H (ny H) yH (by omega) (by omega) W1 bF bH (by omega)) K2.t (K2.b (by omega) (by omega)) (Below.refl _ _) (fun _ => rfl) (by omega)
        (fun pre W => ((∃ M D : Int, BlockIs W wr.heap.size #[.int .i64 H, .int .i64 M, .int .i64 D] 36 ∧ (m ≤ (pre.length : Int) → M = m ∧ D = d)) ∧ BlockIs W w.heap.size #[.int .i64 n] 3 ∧ BlockIs W (w.heap.size + 1 + 1) #[.int .i64 H] 3 ∧ BlockIs W (w.heap.size + 1) #[.int .i64 0, .int .i64 0, .int .i64 0] 36) ∧ Below w.heap.size w W)
        (fun c pre W => (c = .exit 2 ∧ BlockIs W wr.heap.size #[.int .i64 H, .int .i64 m, .int .i64 d] 36 ∧ BlockIs W (w.heap.size + 1) #[.int .i64 0, .int .i64 0, .int .i64 0] 36) ∧ Below w.heap.size w W)
        ?own ?ownx ?st ?start _ ?assign ?body ?done ?stop
      case own => exact OwnFrom.and (Own.from (fun s A B row hs hg hr => by obtain ⟨⟨M, D, h1, h2⟩, h3, h4, h5⟩ := hs; exact ⟨⟨M, D, h1.grown hg hr, h2⟩, h3.grown hg hr, h4.grown hg hr, h5.grown hg hr⟩) _) (ownFrom_below (Nat.le_refl _) (by omega))
      case ownx => exact fun c => OwnFrom.and (Own.from (fun s A B row hs hg hr => ⟨hs.1, hs.2.1.grown hg hr, hs.2.2.grown hg hr⟩) _) (ownFrom_below (Nat.le_refl _) (by omega))
      case st =>
        rintro pre W v ⟨⟨⟨M, D, h1, h2⟩, h3, h4, h5⟩, h6⟩
        exact ⟨⟨⟨M, D, h1.other (a := ⟨wr.heap.size + 1 + 1, 0, none⟩) (by show _ ≠ wr.heap.size + 1 + 1; omega) _, h2⟩, h3.other (a := ⟨wr.heap.size + 1 + 1, 0, none⟩) (by show _ ≠ wr.heap.size + 1 + 1; omega) _, h4.other (a := ⟨wr.heap.size + 1 + 1, 0, none⟩) (by show _ ≠ wr.heap.size + 1 + 1; omega) _, h5.other (a := ⟨wr.heap.size + 1 + 1, 0, none⟩) (by show _ ≠ wr.heap.size + 1 + 1; omega) _⟩, h6.setCell (p := ⟨wr.heap.size + 1 + 1, 0, none⟩) (by show w.heap.size ≤ wr.heap.size + 1 + 1; omega) _⟩
      case start => exact ⟨⟨⟨0, 0, bD, by simp; omega⟩, bN, bY, bR⟩, hW1⟩
      case assign =>
        intro l x W K hK
        gi_wp2
        exact hK
      case body =>
        rintro l pre x W ⟨⟨⟨M, D, hD, hMD⟩, hN, hH, hR⟩, hB⟩ ⟨rfl, hx⟩
        have q1 : W.cell? ⟨w.heap.size, 0, none⟩ = some (.int .i64 n) := hN.cell rfl
        have q2 : W.cell? ⟨w.heap.size + 1 + 1, 0, none⟩ = some (.int .i64 H) := hH.cell rfl
        have r0 : W.cell? ⟨wr.heap.size, 0, none⟩ = some (.int .i64 H) := hD.cell rfl
        have r1 : W.cell? ⟨wr.heap.size, 1, none⟩ = some (.int .i64 M) := hD.cell rfl
        have r2 : W.cell? ⟨wr.heap.size, 2, none⟩ = some (.int .i64 D) := hD.cell rfl
        have f0 := hD.free 0
        have f1 := hD.free 1
        have f2 := hD.free 2
        have bd := hcum_bd yH x (by omega)
        by_cases hlt : n < ny H + hcum H x
        · have hmx : m ≤ (x : Int) := by
            by_cases c : (x : Int) < m
            · have := hcum_mono H x (m.toNat - 1) (by omega); omega
            · omega
          obtain ⟨rfl, rfl⟩ := hMD (by simpa using hmx)
          gi_wp2
          exact ⟨KeepsOthers.refl _, ⟨rfl, hD, hR⟩, hB⟩
        · have hxm : (x : Int) < m := by
            by_cases c : (x : Int) < m
            · exact c
            · have := hcum_mono H m.toNat x (by omega); omega
          by_cases hd0 : 0 < hdim H (x + 1)
          · gi_wp2_with (refine ⟨trivial, ?_⟩; gi_at_call 38; refine (CallsIn.inRound l (callsIn_wide.2 (hdays_any _ _ _))).mono ?_; rintro e w' ⟨rfl, rfl⟩)
            have FIN : KeepsOthers W ((W.setCell ⟨wr.heap.size, 1, none⟩ (.int .i64 ((x : Int) + 1))).setCell ⟨wr.heap.size, 2, none⟩ (.int .i64 (IntKind.i64.wrap (IntKind.i64.wrap (n - (ny H + hcum H x)) + 1)))).drew ∧ K2 (wr.heap.size + 1 + 1) (wr.heap.size + 1) W ((W.setCell ⟨wr.heap.size, 1, none⟩ (.int .i64 ((x : Int) + 1))).setCell ⟨wr.heap.size, 2, none⟩ (.int .i64 (IntKind.i64.wrap (IntKind.i64.wrap (n - (ny H + hcum H x)) + 1)))).drew ∧
                ((∃ M D : Int, BlockIs ((W.setCell ⟨wr.heap.size, 1, none⟩ (.int .i64 ((x : Int) + 1))).setCell ⟨wr.heap.size, 2, none⟩ (.int .i64 (IntKind.i64.wrap (IntKind.i64.wrap (n - (ny H + hcum H x)) + 1)))).drew wr.heap.size #[.int .i64 H, .int .i64 M, .int .i64 D] 36 ∧ (m ≤ ((List.range x ++ [x]).length : Int) → M = m ∧ D = d)) ∧ BlockIs ((W.setCell ⟨wr.heap.size, 1, none⟩ (.int .i64 ((x : Int) + 1))).setCell ⟨wr.heap.size, 2, none⟩ (.int .i64 (IntKind.i64.wrap (IntKind.i64.wrap (n - (ny H + hcum H x)) + 1)))).drew w.heap.size #[.int .i64 n] 3 ∧
                  BlockIs ((W.setCell ⟨wr.heap.size, 1, none⟩ (.int .i64 ((x : Int) + 1))).setCell ⟨wr.heap.size, 2, none⟩ (.int .i64 (IntKind.i64.wrap (IntKind.i64.wrap (n - (ny H + hcum H x)) + 1)))).drew (w.heap.size + 1 + 1) #[.int .i64 H] 3 ∧ BlockIs ((W.setCell ⟨wr.heap.size, 1, none⟩ (.int .i64 ((x : Int) + 1))).setCell ⟨wr.heap.size, 2, none⟩ (.int .i64 (IntKind.i64.wrap (IntKind.i64.wrap (n - (ny H + hcum H x)) + 1)))).drew (w.heap.size + 1) #[.int .i64 0, .int .i64 0, .int .i64 0] 36) ∧
                  Below w.heap.size w ((W.setCell ⟨wr.heap.size, 1, none⟩ (.int .i64 ((x : Int) + 1))).setCell ⟨wr.heap.size, 2, none⟩ (.int .i64 (IntKind.i64.wrap (IntKind.i64.wrap (n - (ny H + hcum H x)) + 1)))).drew := by
              generalize hv : IntKind.i64.wrap (IntKind.i64.wrap (n - (ny H + hcum H x)) + 1) = v
              have hv2 : m ≤ (x : Int) + 1 → v = d := by
                intro c
                have e : m.toNat - 1 = x := by omega
                have := E1.out
                rw [e] at this
                rw [← hv, IntWalk.i64_in (n - (ny H + hcum H x)) ⟨by omega, by omega⟩, IntWalk.i64_in _ ⟨by omega, by omega⟩]
                omega
              have hB2 := (hB.setCell (p := ⟨wr.heap.size, 1, none⟩) (by show w.heap.size ≤ wr.heap.size; omega) (.int .i64 ((x : Int) + 1))).setCell (p := ⟨wr.heap.size, 2, none⟩) (by show w.heap.size ≤ wr.heap.size; omega) (.int .i64 v)
              have oth : ∀ {b : Nat} {cs : Array Value} {t : TypeId}, BlockIs W b cs t → b ≠ wr.heap.size → BlockIs ((W.setCell ⟨wr.heap.size, 1, none⟩ (.int .i64 ((x : Int) + 1))).setCell ⟨wr.heap.size, 2, none⟩ (.int .i64 v)).drew b cs t := fun hb hne => ((hb.other (a := ⟨wr.heap.size, 1, none⟩) hne _).other (a := ⟨wr.heap.size, 2, none⟩) hne _).drew
              refine ⟨((KeepsOthers.setCell _ _ _).trans (KeepsOthers.setCell _ _ _)).trans (KeepsOthers.drew _), ⟨by simp, ?_, ?_⟩, ⟨⟨(x : Int) + 1, v, ((hD.set 1 _).set 2 _).drew, ?_⟩, oth hN (by omega), oth hH (by omega), oth hR (by omega)⟩, hB2.drew⟩
              · exact (Below.heap_setCell _ _ _ _ (by show _ ≠ wr.heap.size; omega)).trans (Below.heap_setCell _ _ _ _ (by show _ ≠ wr.heap.size; omega))
              · exact (Below.heap_setCell _ _ _ _ (by show _ ≠ wr.heap.size; omega)).trans (Below.heap_setCell _ _ _ _ (by show _ ≠ wr.heap.size; omega))
              · intro c
                simp at c
                exact ⟨by omega, hv2 (by omega)⟩
            gi_region
            all_goals exact FIN
          · gi_wp2_with (refine ⟨trivial, ?_⟩; gi_at_call 38; refine (CallsIn.inRound l (callsIn_wide.2 (hdays_any _ _ _))).mono ?_; rintro e w' ⟨rfl, rfl⟩)
            refine ⟨KeepsOthers.refl _, K2.refl _ _ _, ⟨⟨M, D, hD, ?_⟩, hN, hH, hR⟩, hB⟩
            intro c
            simp at c
            have e : m = (x : Int) + 1 := by omega
            rw [← e] at hd0
            omega
      case done =>
        rintro D xs W hDl rfl ⟨⟨⟨M, D', hD, hMD⟩, hN, hH, hR⟩, hB⟩ hK
        obtain ⟨rfl, rfl⟩ := hMD (by simp; omega)
        have q1 : W.cell? ⟨wr.heap.size, 0, none⟩ = some (.int .i64 H) := hD.cell rfl
        have q2 : W.cell? ⟨wr.heap.size, 1, none⟩ = some (.int .i64 M) := hD.cell rfl
        have q3 : W.cell? ⟨wr.heap.size, 2, none⟩ = some (.int .i64 D') := hD.cell rfl
        have f0 := hR.free 0
        have f1 := hR.free 1
        have f2 := hR.free 2
        have z0 : W.cell? ⟨w.heap.size + 1, 0, none⟩ = some (.int .i64 0) := hR.cell rfl
        have z1 : W.cell? ⟨w.heap.size + 1, 1, none⟩ = some (.int .i64 0) := hR.cell rfl
        have z2 : W.cell? ⟨w.heap.size + 1, 2, none⟩ = some (.int .i64 0) := hR.cell rfl
        gi_wp2
        go_wp2
        have hB2 := ((hB.setCell (p := ⟨w.heap.size + 1, 0, none⟩) (by show w.heap.size ≤ w.heap.size + 1; omega) (.int .i64 H)).setCell (p := ⟨w.heap.size + 1, 1, none⟩) (by show w.heap.size ≤ w.heap.size + 1; omega) (.int .i64 M)).setCell (p := ⟨w.heap.size + 1, 2, none⟩) (by show w.heap.size ≤ w.heap.size + 1; omega) (.int .i64 D')
        have hK2 := (((KeepsOthers.setCell W ⟨w.heap.size + 1, 0, none⟩ (.int .i64 H)).trans (KeepsOthers.setCell _ ⟨w.heap.size + 1, 1, none⟩ (.int .i64 M))).trans (KeepsOthers.setCell _ ⟨w.heap.size + 1, 2, none⟩ (.int .i64 D'))).same D _ hK rfl
        have bE := (((hR.set 0 (.int .i64 H)).set 1 (.int .i64 M)).set 2 (.int .i64 D')).grown (grownBy_putObj' _ D (.deferred none)) (fun r e => by cases e; exact ⟨_, hK2, rfl⟩)
        generalize ((W.setCell ⟨w.heap.size + 1, 0, none⟩ (.int .i64 H)).setCell ⟨w.heap.size + 1, 1, none⟩ (.int .i64 M)).setCell ⟨w.heap.size + 1, 2, none⟩ (.int .i64 D') = WE at *
        have e0 : (WE.putObj D (.deferred none)).cell? ⟨w.heap.size + 1, 0, none⟩ = some (.int .i64 H) := bE.cell rfl
        have e1 : (WE.putObj D (.deferred none)).cell? ⟨w.heap.size + 1, 1, none⟩ = some (.int .i64 M) := bE.cell rfl
        have e2 : (WE.putObj D (.deferred none)).cell? ⟨w.heap.size + 1, 2, none⟩ = some (.int .i64 D') := bE.cell rfl
        refine ⟨by simp, .inl ⟨_, _, rfl, run_takeDeferred hK2, ?_⟩⟩
        refine ⟨.tuple #[.agg #[.int .i64 H, .int .i64 M, .int .i64 D'], .int .i64 0], ?_, rfl, hB2.trans (belowK_b (w := w) (Nat.le_refl _) WE D _ _ (by omega) hK2 rfl rfl)⟩
        simp [results, Try.results43, go_sem, e0, e1, e2]
      case stop =>
        rintro D c pre W hDl _ ⟨⟨rfl, hD, hR⟩, hB⟩ hK
        have q1 : W.cell? ⟨wr.heap.size, 0, none⟩ = some (.int .i64 H) := hD.cell rfl
        have q2 : W.cell? ⟨wr.heap.size, 1, none⟩ = some (.int .i64 m) := hD.cell rfl
        have q3 : W.cell? ⟨wr.heap.size, 2, none⟩ = some (.int .i64 d) := hD.cell rfl
        have f0 := hR.free 0
        have f1 := hR.free 1
        have f2 := hR.free 2
        have z0 : W.cell? ⟨w.heap.size + 1, 0, none⟩ = some (.int .i64 0) := hR.cell rfl
        have z1 : W.cell? ⟨w.heap.size + 1, 1, none⟩ = some (.int .i64 0) := hR.cell rfl
        have z2 : W.cell? ⟨w.heap.size + 1, 2, none⟩ = some (.int .i64 0) := hR.cell rfl
        gi_wp2
        go_wp2
        have hB2 := ((hB.setCell (p := ⟨w.heap.size + 1, 0, none⟩) (by show w.heap.size ≤ w.heap.size + 1; omega) (.int .i64 H)).setCell (p := ⟨w.heap.size + 1, 1, none⟩) (by show w.heap.size ≤ w.heap.size + 1; omega) (.int .i64 m)).setCell (p := ⟨w.heap.size + 1, 2, none⟩) (by show w.heap.size ≤ w.heap.size + 1; omega) (.int .i64 d)
        have hK2 := (((KeepsOthers.setCell W ⟨w.heap.size + 1, 0, none⟩ (.int .i64 H)).trans (KeepsOthers.setCell _ ⟨w.heap.size + 1, 1, none⟩ (.int .i64 m))).trans (KeepsOthers.setCell _ ⟨w.heap.size + 1, 2, none⟩ (.int .i64 d))).same D _ hK rfl
        have bE := (((hR.set 0 (.int .i64 H)).set 1 (.int .i64 m)).set 2 (.int .i64 d)).grown (grownBy_putObj' _ D (.deferred none)) (fun r e => by cases e; exact ⟨_, hK2, rfl⟩)
        generalize ((W.setCell ⟨w.heap.size + 1, 0, none⟩ (.int .i64 H)).setCell ⟨w.heap.size + 1, 1, none⟩ (.int .i64 m)).setCell ⟨w.heap.size + 1, 2, none⟩ (.int .i64 d) = WE at *
        have e0 : (WE.putObj D (.deferred none)).cell? ⟨w.heap.size + 1, 0, none⟩ = some (.int .i64 H) := bE.cell rfl
        have e1 : (WE.putObj D (.deferred none)).cell? ⟨w.heap.size + 1, 1, none⟩ = some (.int .i64 m) := bE.cell rfl
        have e2 : (WE.putObj D (.deferred none)).cell? ⟨w.heap.size + 1, 2, none⟩ = some (.int .i64 d) := bE.cell rfl
        refine ⟨by simp, .inl ⟨_, _, rfl, run_takeDeferred hK2, ?_⟩⟩
        refine ⟨.tuple #[.agg #[.int .i64 H, .int .i64 m, .int .i64 d], .int .i64 0], ?_, rfl, hB2.trans (belowK_b (w := w) (Nat.le_refl _) WE D _ _ (by omega) hK2 rfl rfl)⟩
        simp [results, Try.results43, go_sem, e0, e1, e2]
    · go_wp2_with fail
      refine (newyear_ok _ _ yH).mono ?_; rintro e w' ⟨rfl, rfl⟩
      go_wp2_with fail
      refine (len_ok _ _ yH).mono ?_; rintro e w' ⟨rfl, rfl⟩
      go_wp2
      have hlt2 : H < h := by
        by_cases c : H = h
        · subst c; omega
        · omega
      go_round
      case rel => exact ⟨H + 1, by omega, by omega, kH.set 0 _, kN.other (a := ⟨w.heap.size + 1 + 1, 0, none⟩) (by show w.heap.size ≠ w.heap.size + 1 + 1; omega) _, kR.other (a := ⟨w.heap.size + 1 + 1, 0, none⟩) (by show w.heap.size + 1 ≠ w.heap.size + 1 + 1; omega) _, hB.setCell (p := ⟨w.heap.size + 1 + 1, 0, none⟩) (by show w.heap.size ≤ w.heap.size + 1 + 1; omega) _⟩
      case measure =>
        have hc := (kH.set 0 (.int .i64 (H + 1))).cell (i := 0) (v := .int .i64 (H + 1)) rfl
        simp [intOf, q1, hc]; omega

end Go.Proofs.Ytdjfmcomeaijgaa
