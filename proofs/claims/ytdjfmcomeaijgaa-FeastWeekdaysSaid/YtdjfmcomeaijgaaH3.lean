/- hebrew.Day: the number of a date. -/
import Derived.Test.YtdjfmcomeaijgaaH2
import Derived.Deep.RegionHeld3
import Derived.Deep.QuietTactic
import Derived.BigQuiet
import Derived.Scope
namespace Go.Proofs.Ytdjfmcomeaijgaa
open Go Go.RowKit Go.Shelf
attribute [local go_sem] Oper.semAt_some
set_option linter.unusedVariables false
set_option linter.unusedSimpArgs false

theorem BlockIs.grown {W W' : World} {b : Nat} {cs : Array Value} {t : TypeId} {row : Option Nat} (h : BlockIs W b cs t) (hg : W.grownBy W' row) (hr : ∀ r, row = some r → ∃ o : Obj, W.heap[r]? = some o ∧ o.isCells = false) : BlockIs W' b cs t := by
  refine (hg.block b h.lt ?_).trans h
  intro e
  obtain ⟨o, ho, hc⟩ := hr b e.symm
  unfold BlockIs at h
  rw [h] at ho; cases ho; simp [Obj.isCells] at hc

set_option maxHeartbeats 400000 in
theorem hmonths_any (h first : Int) (w : World) :
    Calls Try.prog 67 #[.int .i64 h, .int .i64 first] w fun e w' => e = .returned (.func (.func 74) #[] #[.pointer (some ⟨w.heap.size + 1, 0, none⟩), .pointer (some ⟨w.heap.size, 0, none⟩)]) ∧ (w.alloc (.cells #[.int .i64 h] 3)).alloc (.cells #[.int .i64 first] 3) = w' := by
  go_enter Try.func67, Try.ntmps67
  go_wp2
  go_ret
  exact ⟨rfl, rfl⟩

set_option maxHeartbeats 1000000 in
theorem hday_no (h m d : Int) (w : World) (c : ¬ HMay h m d) :
    Calls Try.prog 40 #[.agg #[.int .i64 h, .int .i64 m, .int .i64 d]] w fun e w' => e = .returned (.tuple #[.int .i64 0, .int .i64 40]) ∧ Below w.heap.size w w' := by
  unfold HMay at c
  by_cases h1 : d < 1
  · have h1d : decide (d < 1) = true := by simpa using h1
    clear c
    go_enter Try.func40, Try.ntmps40
    go_wp2_with fail
    go_step3
    go_wp2_with fail
    go_quiet (fail)
    go_wp2
    try rw [Exit.noGoto_ret]
    go_ret2
    exact ⟨rfl, below_drewN ((Below.refl _ _).alloc (Nat.le_refl _) _) _⟩
  · have h2 : hdim h m < d := by omega
    have h1d : decide (d < 1) = false := by simpa using h1
    have h1 : 1 ≤ d := by omega
    clear c
    go_enter Try.func40, Try.ntmps40
    go_wp2_with fail
    go_step3
    go_wp2_with fail
    go_quiet ((go_at_call 38; exact quiet_left (hdays_any _ _ _)))
    go_wp2
    try rw [Exit.noGoto_ret]
    go_ret2
    exact ⟨rfl, below_drewN ((Below.refl _ _).alloc (Nat.le_refl _) _) _⟩

set_option maxHeartbeats 2000000 in
theorem hday_ok (h m d : Int) (w : World) (c : HMay h m d) :
    Calls Try.prog 40 #[.agg #[.int .i64 h, .int .i64 m, .int .i64 d]] w fun e w' => e = .returned (.tuple #[.int .i64 (hnum h m d), .int .i64 0]) ∧ Below w.heap.size w w' := by
  have hnb := hnum_bd c
  obtain ⟨hy, m1, m2, d1, d2⟩ := c.yr
  obtain ⟨c1, c2⟩ := c
  have h1d : decide (d < 1) = false := by simp; omega
  have nb := ny_bd h (by have := hy.1; omega) (by have := hy.2; omega)
  refine (callsIn_wide (n := 5)).1 ?_
  refine callsIn_of_wp_marks Try.func40 rfl trivial ?_ rfl
  simp only [Try.ntmps40, List.size_toArray, List.length_cons, List.length_nil, Nat.reduceAdd, Nat.reduceSub, Array.replicate_succ, Array.replicate_zero, List.push_toArray, List.append_toArray, List.nil_append, List.cons_append]
  refine wpIn_wide.2 ?_
  go_wp2_with fail
  go_step3
  go_wp2_with fail
  go_quiet ((go_at_call 38; exact quiet_left (hdays_any _ _ _)))
  go_wp2_with fail
  have hW0 : Below w.heap.size w ((w.alloc (.cells #[.int .i64 h, .int .i64 m, .int .i64 d] 36)).drewN nq) := below_drewN ((Below.refl _ _).alloc (Nat.le_refl _) _) _
  have hB0 : BlockIs ((w.alloc (.cells #[.int .i64 h, .int .i64 m, .int .i64 d] 36)).drewN nq) w.heap.size #[.int .i64 h, .int .i64 m, .int .i64 d] 36 := (BlockIs.new w _ _).drewN _
  generalize (w.alloc (.cells #[.int .i64 h, .int .i64 m, .int .i64 d] 36)).drewN nq = W0 at *
  have k0 : W0.cell? ⟨w.heap.size, 0, none⟩ = some (.int .i64 h) := hB0.cell rfl
  have k1 : W0.cell? ⟨w.heap.size, 1, none⟩ = some (.int .i64 m) := hB0.cell rfl
  have k2 : W0.cell? ⟨w.heap.size, 2, none⟩ = some (.int .i64 d) := hB0.cell rfl
  have k0' : (W0.alloc (.cells #[.int .i64 0] 3)).cell? ⟨w.heap.size, 0, none⟩ = some (.int .i64 h) := (hB0.alloc _).cell rfl
  refine (newyear_ok _ _ hy).mono ?_; rintro e w' ⟨rfl, rfl⟩
  go_wp2_with fail
  refine wp_label ?_
  go_wp2_with fail
  refine (hmonths_any _ _ _).mono ?_; rintro e w' ⟨rfl, rfl⟩
  go_wp2_with fail
  have bD : BlockIs (((W0.alloc (.cells #[.int .i64 0] 3)).alloc (.cells #[.int .i64 h] 3)).alloc (.cells #[.int .i64 (ny h)] 3)) w.heap.size #[.int .i64 h, .int .i64 m, .int .i64 d] 36 := ((hB0.alloc _).alloc _).alloc _
  have bN : BlockIs (((W0.alloc (.cells #[.int .i64 0] 3)).alloc (.cells #[.int .i64 h] 3)).alloc (.cells #[.int .i64 (ny h)] 3)) W0.heap.size #[.int .i64 0] 3 := ((BlockIs.new W0 _ _).alloc _).alloc _
  have bH : BlockIs (((W0.alloc (.cells #[.int .i64 0] 3)).alloc (.cells #[.int .i64 h] 3)).alloc (.cells #[.int .i64 (ny h)] 3)) (W0.heap.size + 1) #[.int .i64 h] 3 := by
    have := (BlockIs.new (W0.alloc (.cells #[.int .i64 0] 3)) #[.int .i64 h] 3).alloc (.cells #[.int .i64 (ny h)] 3)
    rwa [World.size_alloc] at this
  have bF : BlockIs (((W0.alloc (.cells #[.int .i64 0] 3)).alloc (.cells #[.int .i64 h] 3)).alloc (.cells #[.int .i64 (ny h)] 3)) (W0.heap.size + 1 + 1) #[.int .i64 (ny h)] 3 := by
    have := (BlockIs.new ((W0.alloc (.cells #[.int .i64 0] 3)).alloc (.cells #[.int .i64 h] 3)) #[.int .i64 (ny h)] 3)
    rwa [World.size_alloc, World.size_alloc] at this
  have hs0 := hW0.size
  have hlt0 := hB0.lt
  have hW1 : Below w.heap.size w (((W0.alloc (.cells #[.int .i64 0] 3)).alloc (.cells #[.int .i64 h] 3)).alloc (.cells #[.int .i64 (ny h)] 3)) := ((hW0.alloc hs0 _).alloc (by simp; omega) _).alloc (by simp; omega) _
  have hz1 : (((W0.alloc (.cells #[.int .i64 0] 3)).alloc (.cells #[.int .i64 h] 3)).alloc (.cells #[.int .i64 (ny h)] 3)).heap.size = W0.heap.size + 3 := by simp
  generalize (((W0.alloc (.cells #[.int .i64 0] 3)).alloc (.cells #[.int .i64 h] 3)).alloc (.cells #[.int .i64 (ny h)] 3)) = W1 at *
  refine (wpIn_wide (n := 5)).1 ?_
  refine' range_own (F := Fence.wide) (n := 5) rfl (by omega) (gf := 74) (lb := #[.pointer (some ⟨W0.heap.size + 1 + 1, 0, none⟩), .pointer (some ⟨W0.heap.size + 1, 0, none⟩)]) rfl trivial (enters_of Try.func74 (by kernel_rfl) rfl)
    (hmonths_own 4 (by omega) (W0.heap.size + 1 + 1) (W0.heap.size + 1) h (ny h) hy (by omega) (by omega) W1 bF bH (by omega)) K2.t (K2.b (by omega) (by omega)) (Below.refl _ _) (fun _ => rfl) (by omega)
    (fun pre W => (((pre.length : Int) < m ∧ BlockIs W W0.heap.size #[.int .i64 0] 3) ∧ BlockIs W w.heap.size #[.int .i64 h, .int .i64 m, .int .i64 d] 36) ∧ Below w.heap.size w W)
    (fun c pre W => ((c = .exit 0 ∧ BlockIs W W0.heap.size #[.int .i64 (hnum h m d)] 3) ∧ BlockIs W w.heap.size #[.int .i64 h, .int .i64 m, .int .i64 d] 36) ∧ Below w.heap.size w W)
    ?own ?ownx ?st ?start _ ?assign ?body ?done ?stop
  case own => exact OwnFrom.and (Own.from (fun s A B row hs hg hr => ⟨⟨hs.1.1, hs.1.2.grown hg hr⟩, hs.2.grown hg hr⟩) _) (ownFrom_below (Nat.le_refl _) (by omega))
  case ownx => exact fun c => OwnFrom.and (Own.from (fun s A B row hs hg hr => ⟨⟨hs.1.1, hs.1.2.grown hg hr⟩, hs.2.grown hg hr⟩) _) (ownFrom_below (Nat.le_refl _) (by omega))
  case st => exact fun pre W v hs => ⟨⟨⟨hs.1.1.1, hs.1.1.2.other (a := ⟨W0.heap.size + 1 + 1, 0, none⟩) (by show W0.heap.size ≠ W0.heap.size + 1 + 1; omega) _⟩, hs.1.2.other (a := ⟨W0.heap.size + 1 + 1, 0, none⟩) (by show w.heap.size ≠ W0.heap.size + 1 + 1; omega) _⟩, hs.2.setCell (p := ⟨W0.heap.size + 1 + 1, 0, none⟩) (by show w.heap.size ≤ W0.heap.size + 1 + 1; omega) _⟩
  case start => exact ⟨⟨⟨by simp; omega, bN⟩, bD⟩, hW1⟩
  case assign =>
    intro l x W K hK
    gi_wp2
    exact hK
  case body =>
    rintro l pre x W ⟨⟨⟨hp, hN⟩, hD⟩, hB⟩ ⟨rfl, hx⟩
    have q1 : W.cell? ⟨w.heap.size, 1, none⟩ = some (.int .i64 m) := hD.cell rfl
    have q2 : W.cell? ⟨w.heap.size, 2, none⟩ = some (.int .i64 d) := hD.cell rfl
    have f0 := hN.free 0
    have q0 : W.cell? ⟨W0.heap.size, 0, none⟩ = some (.int .i64 0) := hN.cell rfl
    by_cases hm : (x : Int) + 1 = m
    · have hmx : ((x : Int) + 1 == m) = true := beq_iff_eq.2 hm
      have hn : hnum h m d = ny h + hcum h x + d - 1 := by
        unfold hnum; rw [show m.toNat - 1 = x by omega]
      have HN := Lib.hid hn
      have bd := hcum_bd hy x (by omega)
      have bl := ylen_bd hy
      clear hm hn
      gi_wp2
      refine ⟨KeepsOthers.setCell _ _ _, ⟨⟨rfl, ?_⟩, hD.other (a := ⟨W0.heap.size, 0, none⟩) (by show w.heap.size ≠ W0.heap.size; omega) _⟩, hB.setCell (p := ⟨W0.heap.size, 0, none⟩) (by show w.heap.size ≤ W0.heap.size; omega) _⟩
      rw [HN.out]
      exact hN.set 0 _
    · have hmx : ((x : Int) + 1 == m) = false := beq_eq_false_iff_ne.2 hm
      gi_wp2
      exact ⟨KeepsOthers.refl _, K2.refl _ _ _, ⟨⟨by simp at hp ⊢; omega, hN⟩, hD⟩, hB⟩
  case done =>
    rintro D xs W hD' rfl ⟨⟨⟨hp, _⟩, _⟩, _⟩ _
    simp at hp
    omega
  case stop =>
    rintro D c pre W hDl _ ⟨⟨⟨rfl, hN⟩, hD⟩, hB⟩ hK
    have q0 : W.cell? ⟨W0.heap.size, 0, none⟩ = some (.int .i64 (hnum h m d)) := hN.cell rfl
    gi_wp2
    go_wp2
    try rw [Exit.noGoto_ret]
    refine ⟨by simp, .inl ⟨_, _, rfl, run_takeDeferred hK, ?_⟩⟩
    exact ⟨_, results_tmp2 rfl _ _ _, rfl, hB.trans (belowK_b (w := w) (Nat.le_refl _) W D _ _ (by omega) hK rfl rfl)⟩

end Go.Proofs.Ytdjfmcomeaijgaa
