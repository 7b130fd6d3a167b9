/- The iterator over the dates of three months. -/
import Derived.Test.YtdjfmcomeaijgaaFI
import Derived.Test.YtdjfmcomeaijgaaH3
namespace Go.Proofs.Ytdjfmcomeaijgaa
open Go Go.RowKit Go.Shelf
attribute [local go_sem] Oper.semAt_some
set_option linter.unusedVariables false
set_option linter.unusedSimpArgs false

/-- The k-th of the ninety dates: its month, and its day. -/
def monK (k : Nat) : Int := if k < 30 then 1 else if k < 60 then 8 else 10
def dayK (k : Nat) : Int := ((k % 30 : Nat) : Int) + 1

/-- What a round must keep: all rows of whole numbers. -/
def KI (A B : World) : Prop := A.heap.size ≤ B.heap.size ∧ ∀ b cs, BlockIs A b cs 3 → BlockIs B b cs 3
theorem KI.t {A B C : World} (x : KI A B) (y : KI B C) : KI A C := ⟨Nat.le_trans x.1 y.1, fun b cs h => y.2 b cs (x.2 b cs h)⟩
theorem KI.refl (A : World) : KI A A := ⟨Nat.le_refl _, fun _ _ h => h⟩
theorem KI.of {A B : World} (x : Below A.heap.size A B) : KI A B := ⟨x.size, fun b cs h => h.kept x⟩
theorem KI.b {w : World} (W : World) (l : Nat) (o o' : Obj) (hl : w.heap.size ≤ l) (x : W.heap[l]? = some o) (y : o.isCells = false) (z : o.isWalk = false) : KI W (W.putObj l o') := by
  have hlt := (Array.getElem?_eq_some_iff.1 x).1
  refine ⟨by simp [World.putObj], fun b cs h => ?_⟩
  have hne : b ≠ l := fun e => by
    subst e
    unfold BlockIs at h
    rw [h] at x; cases x; simp [Obj.isCells] at y
  exact (World.putObj_heap_other hne).trans h

theorem monK_at {i d : Nat} (hd : d < 30) : monK (30 * i + d) = if i = 0 then 1 else if i = 1 then 8 else 10 := by
  unfold monK
  repeat' split
  all_goals omega
theorem dayK_at {i d : Nat} (hd : d < 30) : dayK (30 * i + d) = (d : Int) + 1 := by unfold dayK; omega

theorem fdates_any (h : Int) (w : World) : Calls Try.prog 72 #[.int .i64 h] w fun e w' => e = .returned (.func (.func 77) #[] #[.pointer (some ⟨w.heap.size, 0, none⟩)]) ∧ w.alloc (.cells #[.int .i64 h] 3) = w' := by
  go_enter Try.func72, Try.ntmps72
  go_wp2
  go_ret
  exact ⟨rfl, rfl⟩

set_option maxHeartbeats 4000000 in
theorem fdates_own (n : Nat) (hn : 1 ≤ n) (bh : Nat) (h : Int) (hy : Yr h) (w : World) (hH : BlockIs w bh #[.int .i64 h] 3) :
    SeqOwn Fence.wide n Try.prog 77 #[.pointer (some ⟨bh, 0, none⟩)] (fun k : Nat => #[.agg #[.int .i64 h, .int .i64 (monK k), .int .i64 (dayK k)]]) KI bh (fun ys => ys = List.range 90) (fun pre => ∃ k, k ≤ 90 ∧ pre = List.range k) (fun pre k => pre = List.range k ∧ k < 90) w := by
  intro l J Jx W hW hJ hJx hJb hY h0
  have hH' := hH.below hW hH.lt
  have hsz := hW.size
  have dims := hdim_0 hy
  have d1 := dims.1
  have d8 : hdim h 8 = 30 := dims.2.2.2.2.2.2.2.1
  have d10 : hdim h 10 = 30 := dims.2.2.2.2.2.2.2.2.2.1
  clear hH dims
  refine callsIn_of_wp Try.func77 rfl trivial ?_ rfl
  simp only [Try.ntmps77, List.size_toArray, List.length_cons, List.length_nil, Nat.reduceAdd, Nat.reduceSub, Array.replicate_succ, Array.replicate_zero, List.push_toArray, List.append_toArray, List.nil_append, List.cons_append]
  gi_wp2
  have hJ0 : J (List.range 0) (W.alloc (.cells #[.int .i64 1, .int .i64 8, .int .i64 10] 3)) := hJ _ _ _ none h0 (grown_below ((Below.refl _ _).alloc (Nat.le_refl _) _) (Nat.le_refl _) none) (by simp)
  have hH1 := hH'.alloc (.cells #[.int .i64 1, .int .i64 8, .int .i64 10] 3)
  have hG1 := BlockIs.new W #[.int .i64 1, .int .i64 8, .int .i64 10] 3
  have hs1 : W.heap.size ≤ (W.alloc (.cells #[.int .i64 1, .int .i64 8, .int .i64 10] 3)).heap.size := by simp
  generalize (W.alloc (.cells #[.int .i64 1, .int .i64 8, .int .i64 10] 3)) = W1 at *
  gi_loopw [4, 5, 8] (fun _ _ x wr => ∃ i : Nat, i ≤ 3 ∧ x = .int .i64 (i : Int) ∧ J (List.range (30 * i)) wr ∧ BlockIs wr bh #[.int .i64 h] 3 ∧ BlockIs wr W.heap.size #[.int .i64 1, .int .i64 8, .int .i64 10] 3 ∧ W.heap.size ≤ wr.heap.size) (fun _ _ x _ => (3 - intOf x).toNat)
  case atStart => exact ⟨0, by omega, rfl, hJ0, hH1, hG1, hs1⟩
  case round =>
    obtain ⟨i, hi, rfl, hJs, hbh, hbg, hsz⟩ := hrel
    have c0 : wr.cell? ⟨W.heap.size, 0, none⟩ = some (.int .i64 1) := hbg.cell rfl
    have c1 : wr.cell? ⟨W.heap.size, 1, none⟩ = some (.int .i64 8) := hbg.cell rfl
    have c2 : wr.cell? ⟨W.heap.size, 2, none⟩ = some (.int .i64 10) := hbg.cell rfl
    by_cases hlt : i < 3
    · have inner : ∀ (m : Int), (if i = 0 then 1 else if i = 1 then 8 else 10) = m → hdim h m = 30 → ∀ (d : Nat) (W2 : World), d < 30 → J (List.range (30 * i + d)) W2 → YieldAt Fence.wide (n - 1) Try.prog l #[.agg #[.int .i64 h, .int .i64 m, .int .i64 ((d : Int) + 1)]] W2 fun e W' =>
          (e = .returned (.bool true) ∧ J (List.range (30 * i + (d + 1))) W' ∧ KI W2 W') ∨ (e = .returned (.bool false) ∧ Jx (List.range (30 * i + (d + 1))) W') := by
        intro m hm _ d W2 hd hJ2
        have y := hY (List.range (30 * i + d)) (30 * i + d) W2 hJ2 ⟨rfl, by omega⟩
        rw [monK_at hd, dayK_at hd, hm] at y
        rw [show 30 * i + (d + 1) = 30 * i + d + 1 by omega, List.range_succ]
        exact y
      have hi3 : (i = 0 ∧ (i : Int) = 0) ∨ (i = 1 ∧ (i : Int) = 1) ∨ (i = 2 ∧ (i : Int) = 2) := by omega
      rcases hi3 with ⟨e, e'⟩ | ⟨e, e'⟩ | ⟨e, e'⟩ <;> rw [e'] <;> clear e' <;> subst e
      · have Y := inner 1 rfl d1
        clear inner hY
        gi_wp2
        gi_loopw [5] (fun x wr => ∃ d : Nat, d ≤ 30 ∧ x = .int .i64 ((d : Int) + 1) ∧ J (List.range (30 * 0 + d)) wr ∧ BlockIs wr bh #[.int .i64 h] 3 ∧ BlockIs wr W.heap.size #[.int .i64 1, .int .i64 8, .int .i64 10] 3 ∧ W.heap.size ≤ wr.heap.size) (fun x _ => (31 - intOf x).toNat)
        case atStart => exact ⟨0, by omega, rfl, hJs, hbh, hbg, hsz⟩
        case round =>
          clear c0 c1 c2 hJs hbh hbg hsz
          obtain ⟨d, hd, rfl, hJs, hbh, hbg, hsz⟩ := hrel
          have z0 : wr.cell? ⟨bh, 0, none⟩ = some (.int .i64 h) := hbh.cell rfl
          by_cases hlt2 : d < 30
          · obtain ⟨fn, tmps, assign, body, hyy, hR⟩ := Y d wr hlt2 hJs
            clear Y
            gi_wp2_with (refine ⟨trivial, ?_⟩; gi_at_call 38; refine (callsIn_wide.2 (hdays_any _ _ _)).mono ?_; rintro e w' ⟨rfl, rfl⟩; rw [d1])
            refine hR.mono ?_
            rintro e W3 (⟨rfl, hJ3, hk3⟩ | ⟨rfl, hJx3⟩)
            · gi_wp2
              go_round
              case rel => exact ⟨d + 1, by omega, by go_num, hJ3, hk3.2 _ _ hbh, hk3.2 _ _ hbg, Nat.le_trans hsz hk3.1⟩
              case measure => simp [intOf]; omega
            · gi_wp2
              refine bodyPost_ret (v := .tuple #[]) (results_none rfl _ _ _) rfl ?_
              exact ⟨⟨_, rfl⟩, .inr ⟨_, ⟨30 * 0 + (d + 1), by omega, rfl⟩, hJx3⟩⟩
          · have : d = 30 := by omega
            subst this
            clear Y
            gi_wp2_with (refine ⟨trivial, ?_⟩; gi_at_call 38; refine (callsIn_wide.2 (hdays_any _ _ _)).mono ?_; rintro e w' ⟨rfl, rfl⟩; rw [d1])
            go_round
            case rel => exact ⟨0 + 1, by omega, by go_num, hJs, hbh, hbg, hsz⟩
            case measure => simp [intOf]
      · have Y := inner 8 rfl d8
        clear inner hY
        gi_wp2
        gi_loopw [5] (fun x wr => ∃ d : Nat, d ≤ 30 ∧ x = .int .i64 ((d : Int) + 1) ∧ J (List.range (30 * 1 + d)) wr ∧ BlockIs wr bh #[.int .i64 h] 3 ∧ BlockIs wr W.heap.size #[.int .i64 1, .int .i64 8, .int .i64 10] 3 ∧ W.heap.size ≤ wr.heap.size) (fun x _ => (31 - intOf x).toNat)
        case atStart => exact ⟨0, by omega, rfl, hJs, hbh, hbg, hsz⟩
        case round =>
          clear c0 c1 c2 hJs hbh hbg hsz
          obtain ⟨d, hd, rfl, hJs, hbh, hbg, hsz⟩ := hrel
          have z0 : wr.cell? ⟨bh, 0, none⟩ = some (.int .i64 h) := hbh.cell rfl
          by_cases hlt2 : d < 30
          · obtain ⟨fn, tmps, assign, body, hyy, hR⟩ := Y d wr hlt2 hJs
            clear Y
            gi_wp2_with (refine ⟨trivial, ?_⟩; gi_at_call 38; refine (callsIn_wide.2 (hdays_any _ _ _)).mono ?_; rintro e w' ⟨rfl, rfl⟩; rw [d8])
            refine hR.mono ?_
            rintro e W3 (⟨rfl, hJ3, hk3⟩ | ⟨rfl, hJx3⟩)
            · gi_wp2
              go_round
              case rel => exact ⟨d + 1, by omega, by go_num, hJ3, hk3.2 _ _ hbh, hk3.2 _ _ hbg, Nat.le_trans hsz hk3.1⟩
              case measure => simp [intOf]; omega
            · gi_wp2
              refine bodyPost_ret (v := .tuple #[]) (results_none rfl _ _ _) rfl ?_
              exact ⟨⟨_, rfl⟩, .inr ⟨_, ⟨30 * 1 + (d + 1), by omega, rfl⟩, hJx3⟩⟩
          · have : d = 30 := by omega
            subst this
            clear Y
            gi_wp2_with (refine ⟨trivial, ?_⟩; gi_at_call 38; refine (callsIn_wide.2 (hdays_any _ _ _)).mono ?_; rintro e w' ⟨rfl, rfl⟩; rw [d8])
            go_round
            case rel => exact ⟨1 + 1, by omega, by go_num, hJs, hbh, hbg, hsz⟩
            case measure => simp [intOf]
      · have Y := inner 10 rfl d10
        clear inner hY
        gi_wp2
        gi_loopw [5] (fun x wr => ∃ d : Nat, d ≤ 30 ∧ x = .int .i64 ((d : Int) + 1) ∧ J (List.range (30 * 2 + d)) wr ∧ BlockIs wr bh #[.int .i64 h] 3 ∧ BlockIs wr W.heap.size #[.int .i64 1, .int .i64 8, .int .i64 10] 3 ∧ W.heap.size ≤ wr.heap.size) (fun x _ => (31 - intOf x).toNat)
        case atStart => exact ⟨0, by omega, rfl, hJs, hbh, hbg, hsz⟩
        case round =>
          clear c0 c1 c2 hJs hbh hbg hsz
          obtain ⟨d, hd, rfl, hJs, hbh, hbg, hsz⟩ := hrel
          have z0 : wr.cell? ⟨bh, 0, none⟩ = some (.int .i64 h) := hbh.cell rfl
          by_cases hlt2 : d < 30
          · obtain ⟨fn, tmps, assign, body, hyy, hR⟩ := Y d wr hlt2 hJs
            clear Y
            gi_wp2_with (refine ⟨trivial, ?_⟩; gi_at_call 38; refine (callsIn_wide.2 (hdays_any _ _ _)).mono ?_; rintro e w' ⟨rfl, rfl⟩; rw [d10])
            refine hR.mono ?_
            rintro e W3 (⟨rfl, hJ3, hk3⟩ | ⟨rfl, hJx3⟩)
            · gi_wp2
              go_round
              case rel => exact ⟨d + 1, by omega, by go_num, hJ3, hk3.2 _ _ hbh, hk3.2 _ _ hbg, Nat.le_trans hsz hk3.1⟩
              case measure => simp [intOf]; omega
            · gi_wp2
              refine bodyPost_ret (v := .tuple #[]) (results_none rfl _ _ _) rfl ?_
              exact ⟨⟨_, rfl⟩, .inr ⟨_, ⟨30 * 2 + (d + 1), by omega, rfl⟩, hJx3⟩⟩
          · have : d = 30 := by omega
            subst this
            clear Y
            gi_wp2_with (refine ⟨trivial, ?_⟩; gi_at_call 38; refine (callsIn_wide.2 (hdays_any _ _ _)).mono ?_; rintro e w' ⟨rfl, rfl⟩; rw [d10])
            go_round
            case rel => exact ⟨2 + 1, by omega, by go_num, hJs, hbh, hbg, hsz⟩
            case measure => simp [intOf]
    · have : i = 3 := by omega
      subst this
      gi_wp2
      go_end0
      exact ⟨⟨_, rfl⟩, .inl ⟨_, rfl, hJs⟩⟩

end Go.Proofs.Ytdjfmcomeaijgaa
