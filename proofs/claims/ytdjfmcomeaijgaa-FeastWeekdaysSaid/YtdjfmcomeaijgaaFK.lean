/- feast.List: all days of a year's feasts. -/
import Derived.Test.YtdjfmcomeaijgaaFJ
import Derived.Test.YtdjfmcomeaijgaaRL2
import Derived.OwnWalkIn
import Derived.Deep.AppendLies
namespace Go.Proofs.Ytdjfmcomeaijgaa
open Go Go.RowKit Go.Shelf
attribute [local go_sem] Oper.semAt_some
set_option linter.unusedVariables false
set_option linter.unusedSimpArgs false

theorem feast_info : (Try.prog.info? 56).map (fun i => (i.zero, i.size, i.bytes)) = some (some (.agg #[.int .i64 0, .int .i64 0]), 2, 16) := by kernel_rfl
/-- A date's feast among the ninety, and what a list holds of those that came. -/
def kindK (ab : Bool) (k : Nat) : Int := kindV (monK k) (dayK k) ab
def dayN (h : Int) (k : Nat) : Int := hnum h (monK k) (dayK k)
def fcells (h : Int) (ab : Bool) (pre : List Nat) : List Value := pre.flatMap fun k => if kindK ab k = 0 then [] else [.int .i64 (kindK ab k), .int .i64 (dayN h k)]
theorem mayK {h : Int} (hy : Yr h) {k : Nat} (hk : k < 90) : HMay h (monK k) (dayK k) := by
  have dims := hdim_0 hy
  have d1 := dims.1
  have d8 : hdim h 8 = 30 := dims.2.2.2.2.2.2.2.1
  have d10 : hdim h 10 = 30 := dims.2.2.2.2.2.2.2.2.2.1
  unfold HMay monK dayK
  repeat' split
  · rw [d1]; omega
  · rw [d8]; omega
  · rw [d10]; omega
theorem fcells_no {h : Int} {ab : Bool} {pre : List Nat} {k : Nat} (c : kindK ab k = 0) : fcells h ab (pre ++ [k]) = fcells h ab pre := by
  simp [fcells, c]
theorem fcells_yes {h : Int} {ab : Bool} {pre : List Nat} {k : Nat} (c : kindK ab k ≠ 0) : fcells h ab (pre ++ [k]) = fcells h ab pre ++ [.int .i64 (kindK ab k), .int .i64 (dayN h k)] := by
  simp [fcells, c]

theorem list34 {l : List Value} (h : l.length = 34) : ∃ a0 a1 a2 a3 a4 a5 a6 a7 a8 a9 a10 a11 a12 a13 a14 a15 a16 a17 a18 a19 a20 a21 a22 a23 a24 a25 a26 a27 a28 a29 a30 a31 a32 a33, l = [a0, a1, a2, a3, a4, a5, a6, a7, a8, a9, a10, a11, a12, a13, a14, a15, a16, a17, a18, a19, a20, a21, a22, a23, a24, a25, a26, a27, a28, a29, a30, a31, a32, a33] := by
  match l, h with
  | a0 :: a1 :: a2 :: a3 :: a4 :: a5 :: a6 :: a7 :: a8 :: a9 :: a10 :: a11 :: a12 :: a13 :: a14 :: a15 :: a16 :: a17 :: a18 :: a19 :: a20 :: a21 :: a22 :: a23 :: a24 :: a25 :: a26 :: a27 :: a28 :: a29 :: a30 :: a31 :: a32 :: a33 :: [], _ => exact ⟨a0, a1, a2, a3, a4, a5, a6, a7, a8, a9, a10, a11, a12, a13, a14, a15, a16, a17, a18, a19, a20, a21, a22, a23, a24, a25, a26, a27, a28, a29, a30, a31, a32, a33, rfl⟩

theorem setCell_grown (W : World) (a : Addr) (v : Value) : W.grownBy (W.setCell a v) (some a.block) :=
  ⟨rfl, rfl, rfl, by simp [World.setCell], fun k hk hne => Below.heap_setCell W a v k (fun e => hne (by rw [e]))⟩

/-- What holds between two rounds. -/
def FI (w : World) (h : Int) (ab : Bool) (pre : List Nat) (W : World) : Prop :=
  ∃ out n, n ≤ pre.length ∧ BlockIs W (w.heap.size + 1) #[out] 46 ∧ W.ownsRow (w.heap.size + 3) 56 2 out n (fcells h ab pre) ∧ BlockIs W w.heap.size #[.bool ab] 4 ∧ w.heap.size + 3 ≤ W.heap.size
/-- What holds between the making of a round's own variable and the round. -/
def FM (w : World) (h : Int) (ab : Bool) (pre : List Nat) (k : Nat) (a : Act) (W : World) : Prop :=
  a.tmps.size = 34 ∧ a.defers = [] ∧ a.tmps[3]? = some (.pointer (some ⟨w.heap.size, 0, none⟩)) ∧ a.tmps[6]? = some (.pointer (some ⟨w.heap.size + 1, 0, none⟩)) ∧
  ∃ p, w.heap.size + 3 ≤ p ∧ a.tmps[7]? = some (.pointer (some ⟨p, 0, none⟩)) ∧ BlockIs W p #[.int .i64 h, .int .i64 (monK k), .int .i64 (dayK k)] 36 ∧ FI w h ab pre W

theorem FI.grown {w : World} {h : Int} {ab : Bool} {pre : List Nat} {W W' : World} {row : Option Nat} (hs : FI w h ab pre W) (hg : W.grownBy W' row) (hr : ∀ r, row = some r → ∃ o : Obj, W.heap[r]? = some o ∧ o.isCells = false) : FI w h ab pre W' := by
  obtain ⟨out, n, h0, h1, h2, h3, h4⟩ := hs
  refine ⟨out, n, h0, h1.grown hg hr, h2.kept hg ?_, h3.grown hg hr, Nat.le_trans h4 hg.size⟩
  cases hq : out.ownBlock with
  | none => exact .inl rfl
  | some g =>
    right
    intro e
    obtain ⟨o, ho, hc⟩ := hr g e.symm
    rcases h2.2 with ⟨e1, _⟩ | ⟨g', cap, cur, e1, e2, e3, _⟩
    · subst e1; simp [Value.ownBlock] at hq
    · subst e1
      simp [Value.ownBlock] at hq
      subst hq
      rw [e3] at ho; cases ho; simp [Obj.isCells] at hc

theorem FI.below {w : World} {h : Int} {ab : Bool} {pre : List Nat} {W W' : World} (hs : FI w h ab pre W) (hb : Below W.heap.size W W') : FI w h ab pre W' :=
  hs.grown (grown_below hb (Nat.le_refl _) none) (fun r e => by cases e)
theorem FI.store {w : World} {h : Int} {ab : Bool} {pre : List Nat} {W : World} (hs : FI w h ab pre W) (v : Value) : FI w h ab pre (W.setCell ⟨w.heap.size + 2, 0, none⟩ v) := by
  obtain ⟨out, n, h0, h1, h2, h3, h4⟩ := hs
  refine ⟨out, n, h0, h1.other (a := ⟨w.heap.size + 2, 0, none⟩) (by show w.heap.size + 1 ≠ w.heap.size + 2; omega) v, h2.kept (setCell_grown W _ v) (.inr ?_), h3.other (a := ⟨w.heap.size + 2, 0, none⟩) (by show w.heap.size ≠ w.heap.size + 2; omega) v, by simpa [World.setCell] using h4⟩
  intro e
  have := (h2.lt _ e).1
  dsimp only at this
  omega
theorem keeps_below {W W' : World} (h : Below W.heap.size W W') : KeepsOthers W W' := ⟨h.size, fun k o hk _ => (h.block k (Array.getElem?_eq_some_iff.1 hk).1).trans hk⟩
theorem below_putObj {n : Nat} {w W : World} {l : Nat} (h : Below n w W) (hl : n ≤ l) (o : Obj) : Below n w (W.putObj l o) :=
  ⟨h.os, h.tape, h.output, by simpa [World.putObj] using h.size, fun k hk => (World.putObj_heap_other (by omega)).trans (h.block k hk)⟩
theorem two_new (W : World) (v0 v1 : Value) (t : TypeId) : ∀ j u, ([v0, v1] : List Value)[j]? = some u → (W.alloc (.cells #[v0, v1] t)).cell? ((⟨W.heap.size, 0, none⟩ : Addr).add j) = some u := by
  intro j u hj
  have b := BlockIs.new W #[v0, v1] t
  match j, hj with
  | 0, hj => simp at hj; subst hj; exact b.cell rfl
  | 1, hj => simp at hj; subst hj; exact b.cell rfl
  | j + 2, hj => simp at hj
/-- The row that a list owns is a row of feasts. -/
theorem own_feast {W : World} {base n : Nat} {v : Value} {xs : List Value} (h : W.ownsRow base 56 2 v n xs) {g : Nat} (e : v.ownBlock = some g) : ∃ cur, W.heap[g]? = some (.cells cur 56 (0, 0)) := by
  rcases h.2 with ⟨e1, _⟩ | ⟨g', cap, cur, e1, e2, e3, _⟩
  · subst e1; simp [Value.ownBlock] at e
  · subst e1; simp [Value.ownBlock] at e; subst e; exact ⟨cur, e3⟩
theorem KI.grown {W W' : World} {row : Option Nat} (hg : W.grownBy W' row) (hr : ∀ r, row = some r → ∃ cur, W.heap[r]? = some (.cells cur 56 (0, 0))) : KI W W' := by
  refine ⟨hg.size, fun b cs h => ?_⟩
  refine (hg.block b h.lt ?_).trans h
  intro e
  obtain ⟨cur, hc⟩ := hr b e.symm
  unfold BlockIs at h
  rw [h] at hc
  simp at hc
theorem KI.store {W : World} {o : Nat} {cs : Array Value} (h : BlockIs W o cs 46) (v : Value) : KI W (W.setCell ⟨o, 0, none⟩ v) := by
  refine ⟨by simp [World.setCell], fun b cs' h' => ?_⟩
  refine h'.other (a := ⟨o, 0, none⟩) ?_ v
  intro e
  dsimp only at e
  subst e
  unfold BlockIs at h h'
  rw [h] at h'
  simp at h'

set_option maxHeartbeats 1000000 in
theorem flist_no (h : Int) (ab : Bool) (w : World) (c : ¬ Yr h) :
    Calls Try.prog 52 #[.int .i64 h, .bool ab] w fun e w' => e = .returned (.tuple #[.slice none 0 0, .int .i64 50]) ∧ Below w.heap.size w w' := by
  have d0 := hdim_no (h := h) (m := 1) (.inl c)
  have hA := (Below.refl w.heap.size w).alloc (Nat.le_refl _) (.cells #[.bool ab] 4)
  go_enter Try.func52, Try.ntmps52
  go_wp2_with fail
  refine (hdays_any _ _ _).mono ?_; rintro e w' ⟨rfl, rfl⟩
  rw [d0]
  go_wp2
  go_ret2
  exact ⟨rfl, hA⟩

set_option maxRecDepth 100000 in
set_option maxHeartbeats 4000000 in
theorem flist_ok (h : Int) (ab : Bool) (w : World) (hy : Yr h) :
    Calls Try.prog 52 #[.int .i64 h, .bool ab] w fun e w' => ∃ out n, e = .returned (.tuple #[out, .int .i64 0]) ∧ w'.ownsRow (w.heap.size + 3) 56 2 out n (fcells h ab (List.range 90)) ∧ Below w.heap.size w w' := by
  obtain ⟨i0, hi, hq0, hq1, hq2⟩ := info_parts feast_info
  have d1 := (hdim_0 hy).1
  refine (callsIn_wide (n := 5)).1 ?_
  refine callsIn_of_wp_marks Try.func52 rfl trivial ?_ rfl
  simp only [Try.ntmps52, List.size_toArray, List.length_cons, List.length_nil, Nat.reduceAdd, Nat.reduceSub, Array.replicate_succ, Array.replicate_zero, List.push_toArray, List.append_toArray, List.nil_append, List.cons_append]
  refine wpIn_wide.2 ?_
  go_wp2_with fail
  refine (hdays_any _ _ _).mono ?_; rintro e w' ⟨rfl, rfl⟩
  rw [d1]
  go_wp2_with fail
  refine (fdates_any _ _).mono ?_; rintro e w' ⟨rfl, rfl⟩
  go_wp2_with fail
  have hW1 : Below w.heap.size w (((w.alloc (.cells #[.bool ab] 4)).alloc (.cells #[.slice none 0 0] 46)).alloc (.cells #[.int .i64 h] 3)) := (((Below.refl _ _).alloc (Nat.le_refl _) _).alloc (by simp) _).alloc (by simp; omega) _
  have bA : BlockIs (((w.alloc (.cells #[.bool ab] 4)).alloc (.cells #[.slice none 0 0] 46)).alloc (.cells #[.int .i64 h] 3)) w.heap.size #[.bool ab] 4 := ((BlockIs.new w _ _).alloc _).alloc _
  have bO : BlockIs (((w.alloc (.cells #[.bool ab] 4)).alloc (.cells #[.slice none 0 0] 46)).alloc (.cells #[.int .i64 h] 3)) (w.heap.size + 1) #[.slice none 0 0] 46 := by
    have := (BlockIs.new (w.alloc (.cells #[.bool ab] 4)) #[.slice none 0 0] 46).alloc (.cells #[.int .i64 h] 3)
    rwa [World.size_alloc] at this
  have bH : BlockIs (((w.alloc (.cells #[.bool ab] 4)).alloc (.cells #[.slice none 0 0] 46)).alloc (.cells #[.int .i64 h] 3)) (w.heap.size + 1 + 1) #[.int .i64 h] 3 := by
    have := BlockIs.new ((w.alloc (.cells #[.bool ab] 4)).alloc (.cells #[.slice none 0 0] 46)) #[.int .i64 h] 3
    rwa [World.size_alloc, World.size_alloc] at this
  have hz1 : (((w.alloc (.cells #[.bool ab] 4)).alloc (.cells #[.slice none 0 0] 46)).alloc (.cells #[.int .i64 h] 3)).heap.size = w.heap.size + 3 := by simp
  generalize (((w.alloc (.cells #[.bool ab] 4)).alloc (.cells #[.slice none 0 0] 46)).alloc (.cells #[.int .i64 h] 3)) = W1 at *
  refine (wpIn_wide (n := 5)).1 ?_
  refine' range_made (F := Fence.wide) (n := 5) rfl (by omega) (gf := 77) (lb := #[.pointer (some ⟨w.heap.size + 1 + 1, 0, none⟩)]) rfl trivial (enters_of Try.func77 (by kernel_rfl) rfl)
    (fdates_own 4 (by omega) (w.heap.size + 1 + 1) h hy W1 bH) KI.t (fun W l o o' hl x y z => KI.b (w := W1) W l o o' hl x y z) (Below.refl _ _) (fun _ => rfl) (by omega)
    (fun pre W => FI w h ab pre W ∧ Below w.heap.size w W)
    (fun c pre W => False ∧ Below w.heap.size w W)
    ?own ?ownx ?st ?start (fun pre k a W => FM w h ab pre k a W ∧ Below w.heap.size w W) ?im KI.of ?assign ?body ?done ?stop
  case own => exact OwnFrom.and (Own.from (fun s A B row hs hg hr => hs.grown hg hr) _) (ownFrom_below (Nat.le_refl _) (by omega))
  case ownx => exact fun c => OwnFrom.and (Own.from (fun s A B row hs hg hr => hs) _) (ownFrom_below (Nat.le_refl _) (by omega))
  case st => exact fun pre W v hs => ⟨hs.1.store v, hs.2.setCell (p := ⟨w.heap.size + 1 + 1, 0, none⟩) (by show w.heap.size ≤ w.heap.size + 1 + 1; omega) _⟩
  case start => exact ⟨⟨_, 0, by simp, bO, by simpa [fcells] using World.ownsRow_nil _ _ _ _, bA, by omega⟩, hW1⟩
  case im =>
    rintro pre x a' W' l o o' hl hlo hoc ⟨⟨q1, q2, q3, q4, p, q5, q6, q7, q8⟩, hB⟩
    have hr : ∀ r, some l = some r → ∃ o : Obj, W'.heap[r]? = some o ∧ o.isCells = false := fun r e => by cases e; exact ⟨o, hlo, hoc⟩
    exact ⟨⟨q1, q2, q3, q4, p, q5, q6, q7.grown (grownBy_putObj' _ l o') hr, q8.grown (grownBy_putObj' _ l o') hr⟩, below_putObj hB (by omega) _⟩
  case assign =>
    intro l pre x W K ⟨hi1, hi2⟩ hx hK
    gi_wp2
    have hb : Below W.heap.size W (W.alloc (.cells #[.int .i64 h, .int .i64 (monK x), .int .i64 (dayK x)] 36)) := (Below.refl _ _).alloc (Nat.le_refl _) _
    have hs := hi2.size
    have hz := hi1
    obtain ⟨_, _, _, _, _, _, hz⟩ := hz
    exact hK _ _ ⟨⟨rfl, rfl, rfl, rfl, W.heap.size, hz, rfl, BlockIs.new _ _ _, hi1.below hb⟩, hi2.trans (hb.mono hs)⟩ hb
  case body =>
    rintro l pre x a' W ⟨⟨q1, q2, q3, q4, p, q5, q6, q7, q8⟩, hB⟩ ⟨rfl, hx⟩
    obtain ⟨out, n, h0, hO, hR, hA, hs⟩ := q8
    have M := mayK hy hx
    obtain ⟨v1, v2⟩ := may_wf M
    simp only [List.length_range] at h0
    obtain ⟨ts, ds⟩ := a'
    obtain ⟨ts⟩ := ts
    simp only at q1 q2 q3 q4 q6
    obtain ⟨a0, a1, a2, a3, a4, a5, a6, a7, a8, a9, a10, a11, a12, a13, a14, a15, a16, a17, a18, a19, a20, a21, a22, a23, a24, a25, a26, a27, a28, a29, a30, a31, a32, a33, rfl⟩ := list34 (l := ts) (by simpa using q1)
    subst q2
    simp at q3 q4 q6
    subst q3 q4 q6
    clear q1
    have z0 : W.cell? ⟨p, 0, none⟩ = some (.int .i64 h) := q7.cell rfl
    have z1 : W.cell? ⟨p, 1, none⟩ = some (.int .i64 (monK x)) := q7.cell rfl
    have z2 : W.cell? ⟨p, 2, none⟩ = some (.int .i64 (dayK x)) := q7.cell rfl
    have za : W.cell? ⟨w.heap.size, 0, none⟩ = some (.bool ab) := hA.cell rfl
    have hk : kindV (monK x) (dayK x) ab = kindK ab x := rfl
    have hn : hnum h (monK x) (dayK x) = dayN h x := rfl
    by_cases c : kindK ab x = 0
    · have HC := Lib.hid c
      rw [c] at hk
      clear c
      gi_wp2_with (refine ⟨trivial, ?_⟩; gi_at_call 69; refine (CallsIn.inRound l (callsIn_wide.2 (fkind_ok _ _ _ 0 ab _ v1 v2 hk))).mono ?_; rintro e W2 ⟨rfl, hb⟩)
      refine ⟨keeps_below hb, KI.of hb, ?_, hB.trans (hb.mono hB.size)⟩
      refine FI.below ⟨out, n, by simp; omega, hO, ?_, hA, hs⟩ hb
      rw [fcells_no HC.out]; exact hR
    · have HC := Lib.hid c
      have hne : (kindK ab x != 0) = true := by simpa using c
      have hfc := Lib.hid (fcells_yes (h := h) (pre := List.range x) c)
      have kb := kindV_bd (monK x) (dayK x) ab
      generalize kindK ab x = K at *
      generalize dayN h x = N at *
      clear c
      have nb : some (w.heap.size + 1) ≠ out.ownBlock ∧ some w.heap.size ≠ out.ownBlock := ⟨fun e => by have := (hR.lt _ e.symm).1; omega, fun e => by have := (hR.lt _ e.symm).1; omega⟩
      have OF : ∀ {W3 W4 : World} {X : Obj}, BlockIs W3 (w.heap.size + 1) #[out] 46 → (W3.alloc X).grownBy W4 out.ownBlock → BlockIs W4 (w.heap.size + 1) #[out] 46 := fun {W3 W4 X} h hg => (hg.block _ (h.alloc X).lt nb.1).trans (h.alloc X)
      have EX : ∀ {W2 W3 W4 : World} {v' : Value} {g cap : Nat}, Below W.heap.size W W2 → Below W2.heap.size W2 W3 → (W3.alloc (.cells #[.int .i64 K, .int .i64 N] 56)).grownBy W4 out.ownBlock →
          W4.ownsRow (w.heap.size + 3) 56 2 (.slice (some ⟨g, 0, none⟩) (n + 1) cap) (n + 1) (fcells h ab (List.range x) ++ [.int .i64 K, .int .i64 N]) →
          KeepsOthers W (W4.setCell ⟨w.heap.size + 1, 0, none⟩ (.slice (some ⟨g, 0, none⟩) (n + 1) cap)) ∧ KI W (W4.setCell ⟨w.heap.size + 1, 0, none⟩ (.slice (some ⟨g, 0, none⟩) (n + 1) cap)) ∧
          FI w h ab (List.range x ++ [x]) (W4.setCell ⟨w.heap.size + 1, 0, none⟩ (.slice (some ⟨g, 0, none⟩) (n + 1) cap)) ∧ Below w.heap.size w (W4.setCell ⟨w.heap.size + 1, 0, none⟩ (.slice (some ⟨g, 0, none⟩) (n + 1) cap)) := by
        intro W2 W3 W4 v' g cap b1 b2 hg r1
        have b13 := b1.trans (b2.mono b1.size)
        have RX := (hR.kept (grown_below b13 (Nat.le_refl _) none) (Classical.em _)).alloc (.cells #[.int .i64 K, .int .i64 N] 56)
        have o3 := hO.kept b13
        have o4 := OF o3 hg
        have a4 : BlockIs W4 w.heap.size #[.bool ab] 4 := (hg.block _ ((hA.kept b13).alloc _).lt nb.2).trans ((hA.kept b13).alloc _)
        have hz3 := b13.size
        have hz4 := hg.size
        rw [World.size_alloc] at hz4
        refine ⟨(keeps_below b13).trans ((KeepsOthers.alloc _ _).trans ((KeepsOthers.of_grownBy hg (fun j o e ho => ?_)).trans (KeepsOthers.setCell _ _ _))), (KI.of b13).t ((KI.of ((Below.refl _ _).alloc (Nat.le_refl _) _)).t ((KI.grown hg (fun r e => own_feast RX e)).t (KI.store o4 _))), ⟨_, n + 1, by simp; omega, o4.set 0 _, ?_, a4.other (a := ⟨w.heap.size + 1, 0, none⟩) (by show w.heap.size ≠ w.heap.size + 1; omega) _, by simp [World.setCell]; omega⟩, ?_⟩
        · obtain ⟨cur, hc⟩ := own_feast RX e
          rw [hc] at ho; cases ho; rfl
        · rw [hfc.out]
          refine r1.kept (setCell_grown W4 _ _) (.inr ?_)
          intro e
          have := (r1.lt _ e).1
          dsimp only at this
          omega
        · have hB3 := hB.trans (b13.mono hB.size)
          exact ((hB3.alloc hB3.size _).grown hg (by have := hB3.size; simp; omega) (fun k e => by have := (hR.lt k e).1; omega)).setCell (p := ⟨w.heap.size + 1, 0, none⟩) (by show w.heap.size ≤ w.heap.size + 1; omega) _
      gi_wp2_with (first
        | (refine ⟨trivial, ?_⟩; gi_at_call 69; refine (CallsIn.inRound l (callsIn_wide.2 (fkind_ok _ _ _ K ab _ v1 v2 hk))).mono ?_; rintro e W2 ⟨rfl, hb⟩
           have k2 := q7.kept hb; have y0 := k2.cell (i := 0) (v := .int .i64 h) rfl; have y1 := k2.cell (i := 1) (v := .int .i64 (monK x)) rfl; have y2 := k2.cell (i := 2) (v := .int .i64 (dayK x)) rfl; clear z0 z1 z2 za)
        | (refine ⟨trivial, ?_⟩; gi_at_call 40; refine (CallsIn.inRound l (callsIn_wide.2 (hday_ok _ _ _ _ M))).mono ?_; rintro e W3 ⟨rfl, hb2⟩; rw [hn]
           have b2 := hb.trans (hb2.mono hb.size); have o3 := hO.kept b2; have yo := o3.cell (i := 0) (v := out) rfl; have f0 := o3.free 0; have r3 := hR.kept (grown_below b2 (Nat.le_refl _) none) (Classical.em _); have s3 := b2.size; clear y0 y1 y2)
        | (gi_at_builtin; refine wpListIn_append_own _ rfl (.tmp 27) (.tmp 31) 46 rfl (w.heap.size + 3) 56 i0 (.agg #[.int .i64 0, .int .i64 0]) 2 16 Try.underlying46 hi hq0 hq1 hq2 rfl (by decide) _ _ _ rfl (r3.alloc _) ⟨W3.heap.size, 0, none⟩ 1 1 [.int .i64 K, .int .i64 N] rfl rfl (two_new _ _ _ _) (by intro u hu; simp at hu; rcases hu with hu | hu <;> subst hu <;> rfl) (by unfold maxLen; omega) (by omega) (by simp; omega) ?_
           intro v' W4 r4 r5 r6; obtain ⟨g, cap, hv, g1, g2⟩ := r4.form (by omega); subst hv; have o4 := OF o3 r5; have f4 := o4.free 0; have yo4 := o4.cell (i := 0) (v := out) rfl))
      exact EX (v' := .slice none 0 0) hb hb2 r5 r4
  case done =>
    rintro D xs W hDl rfl ⟨⟨out, n, h0, hO, hR, hA, hs⟩, hB⟩ hK
    have zo : W.cell? ⟨w.heap.size + 1, 0, none⟩ = some out := hO.cell rfl
    gi_wp2
    go_wp2
    try rw [Exit.noGoto_ret]
    refine ⟨by simp, .inl ⟨_, _, rfl, run_takeDeferred hK, ?_⟩⟩
    refine ⟨.tuple #[out, .int .i64 0], by simp [results, Try.results52, go_sem], out, n, rfl, hR.kept (grownBy_putObj' W D (.deferred none)) ?_, below_putObj hB (by omega) _⟩
    cases hq : out.ownBlock with
    | none => exact .inl rfl
    | some g =>
      right
      intro e
      obtain ⟨cur, hc⟩ := own_feast hR hq
      cases e
      rw [hK] at hc; cases hc
  case stop =>
    rintro D c pre W hDl _ ⟨hf, _⟩
    exact hf.elim

end Go.Proofs.Ytdjfmcomeaijgaa
