/- Part of the proof of TopHoly. -/
import Derived.Test.YtfnifgppblbjhaaGreatDoorRows
import Derived.Below
import Derived.ChangeSame
import Derived.Deep.Draws
import Derived.Deep.QuietTactic
import Derived.Deep.RegionHeld
import Derived.Deep.RegionHeld3
import Derived.Handy
import Derived.LaidMore
import Derived.Laws.Rows
import Derived.Laws.Tables
import Derived.Lib.Hide
import Derived.OneCell
import Derived.OpenShut
import Derived.OrdersHeld
import Derived.ProofKit
import Derived.ScopeJumps
import Derived.Stop.Joined
import Derived.WalkKit
import Derived.WalkLawsBesides
import Derived.WalkSpells
namespace Go.Proofs.YtfnifgppblbjhaaGreatDoor
set_option maxHeartbeats 8000000
open Go
set_option linter.unusedVariables false
section
variable {P : Program} {ops : Array Oper} {Q : Exit → Act → World → Prop} {S : World → Prop}
theorem pt : (∀ (a : Act) (d : Tmp) (v : Value), a.put (some d) v = { a with tmps := a.tmps.setIfInBounds d v }) ∧ (∀ (a : Act) (v : Value), a.put none v = a) ∧ (∀ (l : List Value) (i : Nat) (v : Value), l.toArray.setIfInBounds i v = (l.set i v).toArray) ∧
  (∀ (l : List Bool) (i : Nat) (v : Bool), l.toArray.setIfInBounds i v = (l.set i v).toArray) ∧ (∀ (x y : Value) (l : List Value), (x :: l).set 0 y = y :: l) ∧ (∀ (x y : Bool) (l : List Bool), (x :: l).set 0 y = y :: l) ∧
  (∀ (x y : Value) (l : List Value) (i : Nat), (x :: l).set (i + 1) y = x :: l.set i y) ∧ (∀ (x y : Bool) (l : List Bool) (i : Nat), (x :: l).set (i + 1) y = x :: l.set i y) :=
 ⟨fun _ _ _ => rfl, fun _ _ => rfl, fun _ _ _ => by simp, fun _ _ _ => by simp, fun _ _ _ => rfl, fun _ _ _ => rfl, fun _ _ _ _ => rfl, fun _ _ _ _ => rfl⟩
def okH (ops : Array Oper) (listed : Array Bool) (i : Nat) : Bool := Region.noSelect ops && Region.free .any ops listed i && (Region.ready .any ops listed).contains i
theorem tkH {d : Option Tmp} {o : Op} {t : TypeId} {p : String} {g : Array Edge} {u : Option (Nat × Bool)} {v : Value} {fuel : Nat} {listed : Array Bool} {a : Act} {w : World} (i : Nat)
  (h : wpAnyH P .any ops Q S fuel (listed.setIfInBounds i true) (a.put d v) w)
  (hi : ops[i]? = some ⟨d, o, t, p, g, u⟩ := by rfl) (hok : okH ops listed i = true := by kernel_rfl) (hQ : ∀ c a w, Q (.panic c) (a.put d v) w → Q (.panic c) a w := by exact fun _ _ _ h => h)
  (hg : Region.wanted ⟨d, o, t, p, g, u⟩ (yielded ops a.tmps) = true := by rfl)
  (hy : ∀ w, S w → (execOp a.eval ⟨d, o, t, p, g, u⟩).run P w = .ok (.value v) w := by (intro w hSw; (try dsimp only at hSw); go_simp; all_goals (with_reducible rfl)))
  (hS : S w := by assumption) : wpAnyH P .any ops Q S (fuel + 1) listed a w := by
 unfold okH at hok
 simp only [Bool.and_eq_true] at hok
 exact wpAnyH_take hi hok.1.1 hok.1.2 hok.2 hQ (.inl ⟨hg, hy⟩) hS h
theorem tkU {d : Option Tmp} {o : Op} {t : TypeId} {p : String} {g : Array Edge} {u : Option (Nat × Bool)} {fuel : Nat} {listed : Array Bool} {a : Act} {w : World} (i : Nat)
  (h : wpAnyH P .any ops Q S fuel (listed.setIfInBounds i true) (a.put d undef) w)
  (hi : ops[i]? = some ⟨d, o, t, p, g, u⟩ := by rfl) (hok : okH ops listed i = true := by kernel_rfl) (hQ : ∀ c a w, Q (.panic c) (a.put d undef) w → Q (.panic c) a w := by exact fun _ _ _ h => h)
  (hg : Region.wanted ⟨d, o, t, p, g, u⟩ (yielded ops a.tmps) = false := by rfl)
  (hS : S w := by assumption) : wpAnyH P .any ops Q S (fuel + 1) listed a w := by
 unfold okH at hok
 simp only [Bool.and_eq_true] at hok
 exact wpAnyH_take hi hok.1.1 hok.1.2 hok.2 hQ (.inr ⟨hg, rfl⟩) hS h
theorem arC {d : Option Tmp} {o : Op} {t : TypeId} {p : String} {g : Array Edge} {u : Option (Nat × Bool)} {md : Region.Mode} {fuel : Nat} {listed : Array Bool} {a : Act} {w : World} {i : Nat} {rs : List Nat} (ho : ops[i]? = some ⟨d, o, t, p, g, u⟩)
  (h : ∀ K' : Act → World → Prop, Shut (∀ a w, S w → (S w → wpAnyH P md ops Q S fuel (listed.setIfInBounds i true) a w) → K' a w) → if Region.wanted ⟨d, o, t, p, g, u⟩ (yielded ops a.tmps) = true then Oper.wp P ⟨d, o, t, p, g, u⟩ a w K' Q else K' (a.put d undef) w)
  (hs : AllReadyH P md ops Q S fuel listed a w rs) : AllReadyH P md ops Q S fuel listed a w (i :: rs) := AllReadyH.cons ho h hs
theorem rdy (rs : List Nat) {md : Region.Mode} {fuel : Nat} {listed : Array Bool} {a : Act} {w : World} (h : AllReadyH P md ops Q S fuel listed a w rs) (hr : Region.ready md ops listed = rs := by kernel_rfl) (hne : rs ≠ [] := by simp) : wpAnyH P md ops Q S (fuel + 1) listed a w :=
 wpAnyH_ready hr hne h
end
end Go.Proofs.YtfnifgppblbjhaaGreatDoor
namespace Go.Proofs.YtfnifgppblbjhaaGreatDoor
set_option maxHeartbeats 8000000
open Go.RowKit
theorem ediv_bd (a b : Int) (hb : 1 ≤ b) : (0 ≤ a → 0 ≤ a / b ∧ a / b ≤ a) ∧ (a < 0 → a ≤ a / b ∧ a / b < 0) := by
 refine ⟨fun h => ⟨Int.ediv_nonneg h (by omega), Int.ediv_le_self b h⟩, fun h => ⟨?_, Int.ediv_neg_of_neg_of_pos h (by omega)⟩⟩
 refine (Int.le_ediv_iff_mul_le (by omega)).2 ?_
 have := Int.mul_le_mul_of_nonpos_left (a := a) (b := b) (c := 1) (by omega) hb
 omega
theorem emod_bd (a b : Int) (hb : 1 ≤ b) : 0 ≤ a % b ∧ a % b < b := ⟨Int.emod_nonneg a (by omega), Int.emod_lt_of_pos a (by omega)⟩
theorem tmod_cases (a b : Int) (hb : 1 ≤ b) : (0 ≤ a.tmod b → a.tmod b = a % b ∧ (0 ≤ a ∨ a.tmod b = 0)) ∧ (a.tmod b < 0 → a.tmod b + b = a % b ∧ a < 0) := by
 have e := Int.tmod_eq_emod (a := a) (b := b)
 have m := emod_bd a b hb
 by_cases h : 0 ≤ a ∨ b ∣ a
 ·rw [if_pos h] at e
  refine ⟨fun _ => ⟨by omega, ?_⟩, fun h' => by omega⟩
  rcases h with h | h
  ·exact Or.inl h
  ·right; have := Int.emod_eq_zero_of_dvd h; omega
 ·rw [if_neg h] at e
  have e2 : (b.natAbs : Int) = b := by omega
  rw [e2] at e
  refine ⟨fun h' => by omega, fun _ => ⟨by omega, by omega⟩⟩
theorem tdiv_cases (a b : Int) (hb : 1 ≤ b) : (0 ≤ a.tmod b → a.tdiv b = a / b) ∧ (a.tmod b < 0 → a.tdiv b = a / b + 1) := by
 have e := Int.tmod_add_mul_tdiv a b
 have f := Int.emod_add_mul_ediv a b
 have m := tmod_cases a b hb
 refine ⟨fun h => ?_, fun h => ?_⟩
 ·have := (m.1 h).1
  have h3 : b * (a.tdiv b) = b * (a / b) := by omega
  exact Int.eq_of_mul_eq_mul_left (by omega) h3
 ·have := (m.2 h).1
  have h3 : b * (a.tdiv b) = b * (a / b + 1) := by rw [Int.mul_add]; omega
  exact Int.eq_of_mul_eq_mul_left (by omega) h3
theorem tmod_zero (a b : Int) (hb : 1 ≤ b) : a.tmod b = 0 ↔ a % b = 0 := by
 have m := tmod_cases a b hb
 have e := emod_bd a b hb
 constructor
 ·intro h; have := (m.1 (by omega)).1; omega
 ·intro h
  by_cases h2 : 0 ≤ a.tmod b
  ·have := (m.1 h2).1; omega
  ·have := (m.2 (by omega)).1
   have l := Int.lt_tmod_of_pos a (show 0 < b by omega)
   omega
theorem w64 {n : Int} (h : -9223372036854775808 ≤ n) (h' : n ≤ 9223372036854775807) : wrap64 n = n := by unfold wrap64; omega
def gap (a b r : Int) : Int := (r - a) % b
theorem gap_of (a b r : Int) (hb : 1 ≤ b) (h0 : 0 ≤ r) (h1 : r < b) : gap a b r = if a % b ≤ r then r - a % b else r - a % b + b := by
 unfold gap
 have m := emod_bd a b hb
 have e : (r - a) % b = (r - a % b) % b := by rw [Int.sub_emod, Int.sub_emod r (a % b), Int.emod_emod]
 rw [e]
 split
 ·exact Int.emod_eq_of_lt (by omega) (by omega)
 ·rw [← Int.add_emod_right]; exact Int.emod_eq_of_lt (by omega) (by omega)
theorem gap_bd (a b r : Int) (hb : 1 ≤ b) : 0 ≤ gap a b r ∧ gap a b r < b := emod_bd _ _ hb
end Go.Proofs.YtfnifgppblbjhaaGreatDoor
namespace Go.Proofs.YtfnifgppblbjhaaGreatDoor
set_option maxHeartbeats 8000000
open Go.RowKit
set_option linter.unusedVariables false
theorem two {k l : IntKind} {a b c d : Int} (h : a = b) (h' : c = d) : Ending.returned (.tuple #[.int k a, .int l c]) = Ending.returned (.tuple #[.int k b, .int l d]) := by rw [h, h']
theorem one {k : IntKind} {a b : Int} (h : a = b) : Ending.returned (.int k a) = Ending.returned (.int k b) := by rw [h]
def I64 (a : Int) : Prop := -9223372036854775808 ≤ a ∧ a ≤ 9223372036854775807
theorem i64_of {a : Int} (h : (Lit.int .i64 a).wf = true) : I64 a := bounds_i64 h
theorem div_ok (a b : Int) (w : World) (h : 1 ≤ b) (ha : I64 a) :
  Calls Tryz.prog 196 #[.int .i64 a, .int .i64 b] w fun e w' => e = .returned (.tuple #[.int .i64 (a / b), .int .i64 0]) ∧ w = w' := by
 obtain ⟨h0, h1⟩ := ha
 have c := tdiv_cases a b h
 have m := tmod_cases a b h
 have d := ediv_bd a b h
 by_cases hm : 0 ≤ a.tmod b
 ·have H := Lib.hid (c.1 hm)
  clear m d c
  go_enter Tryz.func196, Tryz.ntmps196
  go_wp2
  go_ret2
  exact ⟨two H.out rfl, rfl⟩
 ·have hm : a.tmod b < 0 := by omega
  have e : wrap64 (a.tdiv b - 1) = a / b := by
   rw [c.2 hm, w64 (by omega) (by omega)]; omega
  have H := Lib.hid e
  clear c m d e
  go_enter Tryz.func196, Tryz.ntmps196
  go_wp2
  go_ret2
  exact ⟨two H.out rfl, rfl⟩
theorem mod_ok (a b : Int) (w : World) (h : 1 ≤ b) (ha : I64 a) (hb : b ≤ 9223372036854775807) :
  Calls Tryz.prog 65 #[.int .i64 a, .int .i64 b] w fun e w' => e = .returned (.tuple #[.int .i64 (a % b), .int .i64 0]) ∧ w = w' := by
 obtain ⟨h0, h1⟩ := ha
 have m := tmod_cases a b h
 have d := emod_bd a b h
 by_cases hm : 0 ≤ a.tmod b
 ·have H := Lib.hid (m.1 hm).1
  clear m d
  go_enter Tryz.func65, Tryz.ntmps65
  go_wp2
  go_ret2
  exact ⟨two H.out rfl, rfl⟩
 ·have hm : a.tmod b < 0 := by omega
  have e : wrap64 (a.tmod b + b) = a % b := by
   have := (m.2 hm).1
   rw [this, w64 (by omega) (by omega)]
  have H := Lib.hid e
  clear m d e
  go_enter Tryz.func65, Tryz.ntmps65
  go_wp2
  go_ret2
  exact ⟨two H.out rfl, rfl⟩
def nextAct (a b r : Int) : Act :=
 { tmps :=
    #[Value.int IntKind.i64 a, Value.int IntKind.i64 b, Value.int IntKind.i64 r, undef, undef, undef,
     Value.int IntKind.i64 0, Value.int IntKind.i64 0, Value.int IntKind.i64 (a % b), Value.int IntKind.i64 0,
     Value.int IntKind.i64 (r - a % b), Value.tuple #[Value.int IntKind.i64 (a % b), Value.int IntKind.i64 0],
     Value.int IntKind.i64 a, Value.int IntKind.i64 b,
     Value.tuple #[Value.int IntKind.i64 (a % b), Value.int IntKind.i64 0], Value.int IntKind.i64 (a % b),
     Value.int IntKind.i64 0, Value.int IntKind.i64 0, Value.bool false, undef, Value.int IntKind.i64 r,
     Value.bool (decide (r < 0)), Value.bool (decide (r < 0)), Value.int IntKind.i64 r, Value.int IntKind.i64 b,
     Value.bool (decide (b ≤ r)), Value.bool (decide (r < 0) || decide (b ≤ r)), Value.int IntKind.i64 r,
     Value.int IntKind.i64 (a % b), Value.int IntKind.i64 (r - a % b), Value.int IntKind.i64 (r - a % b),
     Value.bool true, undef, undef, undef, undef, undef, undef, undef, undef, undef, undef], defers := [] }
theorem next_ok (a b r : Int) (w : World) (h : 1 ≤ b) (ha : I64 a) (hb : b ≤ 9223372036854775807) (hr : 0 ≤ r) (hr' : r < b) (hg : a + gap a b r ≤ 9223372036854775807) :
  Calls Tryz.prog 267 #[.int .i64 a, .int .i64 b, .int .i64 r] w fun e w' => e = .returned (.tuple #[.int .i64 (a + gap a b r), .int .i64 0]) ∧ w = w' := by
 have g := gap_of a b r h hr hr'
 have m := emod_bd a b h
 have hA := ha
 obtain ⟨h0, h1⟩ := ha
 by_cases hm : a % b ≤ r
 ·rw [if_pos hm] at g
  rw [g] at hg
  have H := Lib.hid g
  clear g
  go_enter Tryz.func267, Tryz.ntmps267
  go_wp2_with fail
  refine wp_scope_jumps 0 (fun a' w' => w' = w ∧ a' = nextAct a b r) (fun _ _ => 0) rfl ?first ?pass
  case first =>
   go_wp2_with fail
   refine (mod_ok _ _ _ h hA hb).mono ?_; rintro e w' ⟨rfl, rfl⟩
   go_wp2
   go_step3
   exact ⟨rfl, rfl, rfl⟩
  case pass =>
  rintro a' w' ⟨rfl, rfl⟩
  unfold nextAct
  go_wp2
  simp only [Exit.jump]
  go_ret2
  exact ⟨two (by rw [H.out]) rfl, rfl⟩
 ·rw [if_neg hm] at g
  rw [g] at hg
  have H := Lib.hid g
  clear g
  go_enter Tryz.func267, Tryz.ntmps267
  go_wp2_with fail
  go_step3
  go_wp2_with fail
  refine (mod_ok _ _ _ h hA hb).mono ?_; rintro e w' ⟨rfl, rfl⟩
  go_wp2
  go_step3
  go_wp2
  rw [Exit.noGoto_ret]
  go_ret2
  exact ⟨two (by rw [H.out]) rfl, rfl⟩
theorem weekday_any (a : Int) (w : World) (ha : I64 a) :
  Calls Tryz.prog 29 #[.int .i64 a] w fun e w' => e = .returned (.int .i64 (a % 7)) ∧ w = w' := by
 go_enter Tryz.func29, Tryz.ntmps29
 go_wp2_with fail
 refine (mod_ok _ _ _ (by omega) ha (by omega)).mono ?_; rintro e w' ⟨rfl, rfl⟩
 go_wp2
 go_ret
 exact ⟨rfl, rfl⟩
end Go.Proofs.YtfnifgppblbjhaaGreatDoor
namespace Go.Proofs.YtfnifgppblbjhaaGreatDoor
set_option maxHeartbeats 8000000
open Go.RowKit
def BlockIs (w : World) (b : Nat) (cs : Array Value) (t : TypeId) : Prop := w.heap[b]? = some (.cells cs t (0, 0))
theorem BlockIs.lt {w : World} {b : Nat} {cs : Array Value} {t : TypeId} (h : BlockIs w b cs t) : b < w.heap.size := (Array.getElem?_eq_some_iff.1 h).1
theorem BlockIs.cell {w : World} {b : Nat} {cs : Array Value} {t : TypeId} (h : BlockIs w b cs t) {i : Nat} {v : Value} (hi : cs[i]? = some v) : w.cell? ⟨b, i, none⟩ = some v := by
 unfold BlockIs at h; simp [World.cell?, h, hi]
theorem BlockIs.free {w : World} {b : Nat} {cs : Array Value} {t : TypeId} (h : BlockIs w b cs t) (i : Nat) : w.frozen? ⟨b, i, none⟩ = false := by
 unfold BlockIs at h; simp [World.frozen?, h]
theorem BlockIs.below {n : Nat} {w w' : World} {b : Nat} {cs : Array Value} {t : TypeId} (h : BlockIs w b cs t) (hb : Below n w w') (hn : b < n) : BlockIs w' b cs t := (hb.block b hn).trans h
theorem BlockIs.kept {w w' : World} {b : Nat} {cs : Array Value} {t : TypeId} (h : BlockIs w b cs t) (hb : Below w.heap.size w w') : BlockIs w' b cs t := h.below hb h.lt
theorem BlockIs.drew {w : World} {b : Nat} {cs : Array Value} {t : TypeId} (h : BlockIs w b cs t) : BlockIs w.drew b cs t := h
theorem BlockIs.drewN {w : World} {b : Nat} {cs : Array Value} {t : TypeId} (h : BlockIs w b cs t) (n : Nat) : BlockIs (w.drewN n) b cs t := h
theorem BlockIs.new (w : World) (cs : Array Value) (t : TypeId) : BlockIs (w.alloc (.cells cs t)) w.heap.size cs t := (MapKept.heap_alloc w _).1
theorem BlockIs.alloc {w : World} {b : Nat} {cs : Array Value} {t : TypeId} (h : BlockIs w b cs t) (o : Obj) : BlockIs (w.alloc o) b cs t := (Below.heap_alloc w o b h.lt).trans h
theorem BlockIs.other {w : World} {b : Nat} {cs : Array Value} {t : TypeId} (h : BlockIs w b cs t) {a : Addr} (ha : b ≠ a.block) (v : Value) : BlockIs (w.setCell a v) b cs t := (Below.heap_setCell w a v b ha).trans h
theorem BlockIs.set {w : World} {b : Nat} {cs : Array Value} {t : TypeId} (h : BlockIs w b cs t) (i : Nat) (v : Value) : BlockIs (w.setCell ⟨b, i, none⟩ v) b (cs.setIfInBounds i v) t := by
 unfold BlockIs at *
 rw [setCell_eq_setRow w b i cs t (0, 0) v h]
 exact setRow_heap w b cs _ t (0, 0) h
theorem BlockIs.row {w : World} {b : Nat} {cs : Array Value} {t : TypeId} (h : BlockIs w b cs t) (cs' : Array Value) : BlockIs (w.setRow b cs') b cs' t := setRow_heap w b cs cs' t (0, 0) h
theorem BlockIs.rowOther {w : World} {b : Nat} {cs : Array Value} {t : TypeId} (h : BlockIs w b cs t) {b' : Nat} (hb : b ≠ b') (cs' : Array Value) : BlockIs (w.setRow b' cs') b cs t := (setRow_other w b' b cs' hb).trans h
theorem below_setRow {B : Nat} {a w : World} (h : Below B a w) {b : Nat} (hb : B ≤ b) (cs : Array Value) : Below B a (w.setRow b cs) :=
 h.trans ⟨rfl, rfl, rfl, by simp [World.setRow], fun k hk => setRow_other w b k cs (by omega)⟩
theorem below_drewN {B : Nat} {a w : World} (h : Below B a w) (n : Nat) : Below B a (w.drewN n) := ⟨h.os, h.tape, h.output, h.size, h.block⟩
theorem quiet_left {P : Program} {f : FuncId} {args : Array Value} {w : World} {n : Nat} {v : Value}
  (h : Calls P f args (w.drewN n) fun e w' => e = .returned v ∧ w.drewN n = w') : Calls P f args (w.drewN n) fun e w'' => e = .returned v ∧ ∃ m, w'' = w.drewN m :=
 h.mono fun _ _ ⟨he, hm⟩ => ⟨he, n, hm.symm⟩
theorem keep3 {b : Nat} {v0 v1 v2 : Value} {n : Nat} {w0 W w2 : World} (h : W.cell? ⟨b, 0, none⟩ = some v0 ∧ W.cell? ⟨b, 1, none⟩ = some v1 ∧ W.cell? ⟨b, 2, none⟩ = some v2 ∧ Below n w0 W) (hb : Below W.heap.size W w2) (hc : b < n) (hn : n ≤ w0.heap.size) :
  w2.cell? ⟨b, 0, none⟩ = some v0 ∧ w2.cell? ⟨b, 1, none⟩ = some v1 ∧ w2.cell? ⟨b, 2, none⟩ = some v2 ∧ Below n w0 w2 := by
 obtain ⟨h0, h1, h2, h3⟩ := h
 have hs := h3.size
 exact ⟨(hb.cell (p := ⟨b, 0, none⟩) (by show b < _; omega)).trans h0, (hb.cell (p := ⟨b, 1, none⟩) (by show b < _; omega)).trans h1, (hb.cell (p := ⟨b, 2, none⟩) (by show b < _; omega)).trans h2, h3.trans (hb.mono (by omega))⟩
end Go.Proofs.YtfnifgppblbjhaaGreatDoor
namespace Go.Proofs.YtfnifgppblbjhaaGreatDoor
set_option maxHeartbeats 8000000
open Go.ChangeShapes Go.WideShapes Go.ChangeAt Go.RowKit
def flatB (P : Program) : Nat → TypeId → Bool
 | 0, _ => false
 | k + 1, t =>
  match P.underlying t with
  | some (.int .i64) => true
  | some (.struct fs) => fs.toList.all (fun f => flatB P k f.type) && (List.range (P.cellsOf t)).all fun j => fs.toList.any fun f => decide (f.offset ≤ j) && decide (j < f.offset + P.cellsOf f.type)
  | some (.array n e) => flatB P k e && decide (0 < P.cellsOf e) && decide (P.cellsOf t = n * P.cellsOf e)
  | _ => false
section
variable {H : Type} {enc : TypeId × Value → H} {P : Program} {w : World} {base : Nat} {spare : Nat → Bool} {held : Bool}
theorem mem_part {cs : List Value} {j o n : Nat} (hj : j < cs.length) (h1 : o ≤ j) (h2 : j < o + n) : cs[j] ∈ (cs.drop o).take n := by
 refine List.mem_iff_getElem.2 ⟨j - o, by simp; omega, ?_⟩
 simp only [List.getElem_take, List.getElem_drop]
 congr 1; omega
theorem trod_flat : ∀ (k : Nat) (t : TypeId) (fuel : Nat) (cs : List Value) (x : DataW H × List MemPlace), flatB P k t = true → DataW.trod enc P w base spare held fuel t cs = some x →
  x.2 = [] ∧ ∀ c ∈ cs, ∃ a : Int, c = .int .i64 a ∧ (Lit.int .i64 a).wf = true := by
 intro k
 induction k with
 | zero => intro t fuel cs x h; cases h
 | succ k ih =>
  intro t fuel cs x hf h
  unfold flatB at hf
  split at hf
  ·rename_i hu
   obtain ⟨n, rfl, rfl, hw⟩ := DataW.trod_int hu h
   exact ⟨rfl, fun c hc => ⟨n, by simpa using hc, hw⟩⟩
  ·rename_i fs hu
   simp only [Bool.and_eq_true, List.all_eq_true, List.any_eq_true, List.mem_range, decide_eq_true_eq] at hf
   obtain ⟨hf1, hf2⟩ := hf
   obtain ⟨xs, m, rfl, rfl, hl, hn, hel⟩ := DataW.trod_struct hu h
   have hpart : ∀ f ∈ fs.toList, ∃ i : Nat, ∃ y : DataW H × List MemPlace, xs[i]? = some y ∧ DataW.trod enc P w base spare held m f.type ((cs.drop f.offset).take (P.cellsOf f.type)) = some y := by
    intro f hfm
    obtain ⟨i, hi, rfl⟩ := List.mem_iff_getElem.1 hfm
    have hi' : i < fs.size := by simpa using hi
    have := hel i fs[i] (by simp [hi'])
    exact ⟨i, xs[i]'(by omega), by simp, by simpa using this.trans (List.getElem?_eq_getElem (by omega))⟩
   refine ⟨?_, ?_⟩
   ·simp only [List.flatMap_eq_nil_iff]
    intro y hy
    obtain ⟨i, hi, rfl⟩ := List.mem_iff_getElem.1 hy
    have hi' : i < fs.size := by omega
    have e := hel i fs[i] (by simp [hi'])
    exact (ih _ _ _ _ (hf1 fs[i] (by simp)) (e.trans (List.getElem?_eq_getElem hi))).1
   ·intro c hc
    obtain ⟨j, hj, rfl⟩ := List.mem_iff_getElem.1 hc
    obtain ⟨f, hfm, ho, ho2⟩ := hf2 j (by omega)
    obtain ⟨i, y, _, e⟩ := hpart f hfm
    exact (ih _ _ _ _ (hf1 f hfm) e).2 _ (mem_part hj ho ho2)
  ·rename_i n e hu
   simp only [Bool.and_eq_true, decide_eq_true_eq] at hf
   obtain ⟨⟨hf1, hpos⟩, hcells⟩ := hf
   obtain ⟨xs, m, rfl, rfl, hl, hn, hel⟩ := DataW.trod_array hu h
   refine ⟨?_, ?_⟩
   ·simp only [List.flatMap_eq_nil_iff]
    intro y hy
    obtain ⟨i, hi, rfl⟩ := List.mem_iff_getElem.1 hy
    have e := hel i (by omega)
    exact (ih _ _ _ _ hf1 (e.trans (List.getElem?_eq_getElem hi))).1
   ·intro c hc
    obtain ⟨j, hj, rfl⟩ := List.mem_iff_getElem.1 hc
    have hjn : j / P.cellsOf e < n := by rw [Nat.div_lt_iff_lt_mul hpos]; omega
    have e' := hel (j / P.cellsOf e) hjn
    have hm := Nat.div_mul_le_self j (P.cellsOf e)
    have hm2 := Nat.lt_div_mul_add (a := j) hpos
    exact (ih _ _ _ _ hf1 (e'.trans (List.getElem?_eq_getElem (by omega)))).2 _ (mem_part hj hm hm2)
  ·cases hf
theorem open_flat {r : Reach} {b0 : Nat} {t : TypeId} {v : Value} {d : DataW H} {p : List MemPlace} (k : Nat) (hf : flatB P k t = true) (hs : (∃ fs, P.underlying t = some (.struct fs)) ∨ ∃ n e, P.underlying t = some (.array n e))
  (hv : Value.okWide P w r b0 t v) (h : DataW.Trod enc P w base spare held t v d p) :
  ∃ cs : List Value, v = .agg cs.toArray ∧ cs.length = P.cellsOf t ∧ p = [] ∧ ∀ c ∈ cs, ∃ a : Int, c = .int .i64 a ∧ (Lit.int .i64 a).wf = true := by
 have hv2 : ∃ cs, v = .agg cs ∧ cs.size = P.cellsOf t := by
  unfold Value.okWide at hv
  rcases hs with ⟨fs, hs⟩ | ⟨n, e, hs⟩
  ·rw [hs] at hv; exact ⟨hv.choose, hv.choose_spec.1, hv.choose_spec.2.1⟩
  ·rw [hs] at hv; exact ⟨hv.choose, hv.choose_spec.1, hv.choose_spec.2.1⟩
 obtain ⟨cs, rfl, hsz⟩ := hv2
 obtain ⟨fuel, hfu⟩ := h
 have := trod_flat k t fuel _ _ hf hfu
 exact ⟨cs.toList, by simp, by simpa using hsz, this.1, fun c hc => this.2 c (by simpa [Value.cells] using hc)⟩
theorem flat_stays {t : TypeId} {v : Value} {d : DataW H} (hl : laidOutB P = true) (hr : P.readableRec t = true) (hrow : t < P.types.size) {W W' : World} {sp : Nat → Bool}
  (h : DataW.Trod enc P W base (fun _ => true) true t v d []) : DataW.Trod enc P W' base sp true t v d [] :=
 WideElems.Trod_stays hl hr hrow h (fun _ hp => by cases hp) (fun _ hp => by cases hp)
end
section
variable {H : Type} {enc : TypeId × Value → H} {P : Program}
theorem post_below {f : Func} {s : ChangeSpec} {apart fresh handsOn again : Bool} {W W' : World} {args : Array Value} {v : Value} {ds gs : List (DataW H)} {before pa pv : List MemPlace}
  (hW : DataW.Whole enc P f.params.toList s.vars apart W args.toList ds gs before)
  (hres : ∀ (b : Nat) (sp : Nat → Bool) (hd : Bool), DataW.TrodAll enc P W' b sp hd f.resultTypes.toList (v.resultList f.resultTypes.size) (s.fn H (ds ++ gs)).results [])
  (hargs : ∀ sp : Nat → Bool, (∀ p ∈ before, sp p.block = true) → DataW.TrodAll enc P W' 0 sp true f.params.toList args.toList (s.fn H (ds ++ gs)).args pa)
  (hvars : ∀ sp : Nat → Bool, (∀ p ∈ before, sp p.block = true) → DataW.TrodVars enc P W' sp s.vars (s.fn H (ds ++ gs)).vars pv)
  (hps : before = pa ++ pv) (hb : Below W.heap.size W W')
  (hok : ∀ (j : Nat) (t : TypeId) (r : Value), f.resultTypes[j]? = some t → (v.resultList f.resultTypes.size)[j]? = some r → Value.okWide P W' .any 0 t r) :
  s.post enc P f apart fresh handsOn again W args v W' := by
 have hlt : ∀ p ∈ before, p.block < W.heap.size := fun p hp => hW.lt p hp
 have hold : ∀ p ∈ before, (fun b => decide (b < W.heap.size)) p.block = true := fun p hp => by simpa using hlt p hp
 refine ⟨ds, gs, before, [], pa, pv, hW, hres _ _ _, hargs _ hold, hvars _ hold, World.keptBut_mono (fun p hp => ⟨hp, ?_⟩) (hb.frame (· ∈ before)), fun _ => ?_⟩
 ·rw [hps, List.mem_append] at hp
  exact Or.inr hp
 ·obtain ⟨_, _, _, _, _, hz, hn⟩ := hW
  refine ⟨hok, _, _, ([] ++ pa) ++ pv, ⟨[] ++ pa, pv, trodAll_append (hargs _ (fun _ _ => rfl)) (hres _ _ _), hvars _ (fun _ _ => rfl), rfl, ?_, ?_⟩, ?_⟩
  ·intro b off hp
   have hin : MemPlace.cell b off ∈ before := by rw [hps]; simpa using hp
   rw [hb.frozen (hlt _ hin)]
   exact hz b off hin
  ·intro ha
   have := hn ha
   rw [hps] at this
   simpa using this
  ·intro p hp _
   rw [hps]
   simpa using hp
end
end Go.Proofs.YtfnifgppblbjhaaGreatDoor
namespace Go.Proofs.YtfnifgppblbjhaaGreatDoor
set_option maxHeartbeats 8000000
open Go.RowKit
set_option linter.unusedVariables false
set_option linter.unusedSimpArgs false
def zc (n : Int) : Nat := if 0 ≤ n then (2 * n).toNat else (2 * (-1 - n)).toNat + 1
def zd (c : Nat) : Int := if c % 2 = 1 then -1 - ((c / 2 : Nat) : Int) else ((c / 2 : Nat) : Int)
theorem zd_zc (n : Int) : zd (zc n) = n := by
 unfold zd zc
 by_cases h : 0 ≤ n
 ·rw [if_pos h, if_neg (by omega)]; omega
 ·rw [if_neg h, if_pos (by omega)]; omega
theorem zc_lt {n : Int} (h : -9223372036854775808 ≤ n) (h' : n ≤ 9223372036854775807) : zc n < 18446744073709551616 := by
 unfold zc; split <;> omega
def putC : Nat → Nat → List Nat
 | 0, c => [c]
 | k + 1, c => if c < 128 then [c] else (c % 128 + 128) :: putC k (c / 128)
def putN (n : Int) : List Nat := putC 9 (zc n)
def rowB (l : List Int) : List Nat := putN l.length ++ l.flatMap putN
theorem putC_one {k c : Nat} (h : c < 128) : putC k c = [c] := by
 cases k with
 | zero => rfl
 | succ k => unfold putC; rw [if_pos h]
theorem putC_more {k c : Nat} (h : ¬ c < 128) : putC (k + 1) c = (c % 128 + 128) :: putC k (c / 128) := by
 rw [putC, if_neg h]
theorem putC_len (k c : Nat) : 1 ≤ (putC k c).length ∧ (putC k c).length ≤ k + 1 := by
 induction k generalizing c with
 | zero => simp [putC]
 | succ k ih =>
  unfold putC
  split
  ·simp
  ·have := ih (c / 128); simp; omega
theorem putC_byte {k c : Nat} (h : c < 128 ^ (k + 1) * 2) : ∀ x ∈ putC k c, x < 256 := by
 induction k generalizing c with
 | zero => intro x hx; simp [putC] at hx; omega
 | succ k ih =>
  intro x hx
  unfold putC at hx
  split at hx
  ·simp at hx; omega
  ·rcases List.mem_cons.1 hx with hx | hx
   ·omega
   ·refine ih ?_ x hx
    rw [Nat.pow_succ] at h
    omega
theorem putN_byte {n : Int} (h : -9223372036854775808 ≤ n) (h' : n ≤ 9223372036854775807) : ∀ x ∈ putN n, x < 256 := by
 have := zc_lt h h'
 exact putC_byte (by omega)
theorem putN_len (n : Int) : 1 ≤ (putN n).length ∧ (putN n).length ≤ 10 := putC_len 9 _
def bitV (s : Nat) (one : Bool) : Nat := if decide (32768 ≤ s) != one then (s * 2 % 65536) ^^^ 4129 else s * 2 % 65536
def bit8 (x k : Nat) : Bool := x / 2 ^ k % 2 == 1
def halfV (s x : Nat) : Nat := bitV (bitV (bitV (bitV s (bit8 x 3)) (bit8 x 2)) (bit8 x 1)) (bit8 x 0)
def byteV (s x : Nat) : Nat := bitV (bitV (bitV (bitV (bitV (bitV (bitV (bitV s (bit8 x 7)) (bit8 x 6)) (bit8 x 5)) (bit8 x 4)) (bit8 x 3)) (bit8 x 2)) (bit8 x 1)) (bit8 x 0)
def moreV (s : Nat) (l : List Nat) : Nat := l.foldl byteV s
def sealV (l : List Nat) : List Nat := l ++ [moreV 65535 l / 256, moreV 65535 l % 256]
theorem bitV_lt (s : Nat) (b : Bool) : bitV s b < 65536 := by
 unfold bitV
 have : s * 2 % 65536 < 65536 := Nat.mod_lt _ (by omega)
 split
 ·exact Nat.xor_lt_two_pow (n := 16) this (by omega)
 ·exact this
theorem byteV_lt (s x : Nat) : byteV s x < 65536 := bitV_lt _ _
theorem moreV_lt {s : Nat} (h : s < 65536) (l : List Nat) : moreV s l < 65536 := by
 unfold moreV
 induction l generalizing s with
 | nil => exact h
 | cons x l ih => exact ih (byteV_lt _ _)
theorem byteV_half (s x : Nat) (hx : x < 256) : byteV s x = halfV (halfV s (x / 16)) (x % 16) := by
 have e7 : bit8 (x / 16) 3 = bit8 x 7 := by unfold bit8; congr 1; omega
 have e6 : bit8 (x / 16) 2 = bit8 x 6 := by unfold bit8; congr 1; omega
 have e5 : bit8 (x / 16) 1 = bit8 x 5 := by unfold bit8; congr 1; omega
 have e4 : bit8 (x / 16) 0 = bit8 x 4 := by unfold bit8; congr 1; omega
 have e3 : bit8 (x % 16) 3 = bit8 x 3 := by unfold bit8; congr 1; omega
 have e2 : bit8 (x % 16) 2 = bit8 x 2 := by unfold bit8; congr 1; omega
 have e1 : bit8 (x % 16) 1 = bit8 x 1 := by unfold bit8; congr 1; omega
 have e0 : bit8 (x % 16) 0 = bit8 x 0 := by unfold bit8; congr 1; omega
 unfold halfV byteV
 rw [e7, e6, e5, e4, e3, e2, e1, e0]
def halves (i : Nat) : Nat := (#[0, 4129, 8258, 12387, 16516, 20645, 24774, 28903, 33032, 37161, 41290, 45419, 49548, 53677, 57806, 61935] : Array Nat).getD i 0
def nextV (s x : Nat) : Nat := (s * 16 % 65536) ^^^ halves ((s / 4096) ^^^ x)
theorem bitV_lin (A K : Nat) (p : Bool) (hA : A < 65536) (hK : K < 32768) :
  bitV (A ^^^ K) p = (A * 2 % 65536) ^^^ ((K * 2) ^^^ (if decide (32768 ≤ A) != p then 4129 else 0)) := by
 have top : decide (32768 ≤ A ^^^ K) = decide (32768 ≤ A) := by
  have hA2 : A / 32768 < 2 := by omega
  have hd : (A ^^^ K) / 2 ^ 15 = A / 2 ^ 15 ^^^ K / 2 ^ 15 := by
   rw [← Nat.shiftRight_eq_div_pow, ← Nat.shiftRight_eq_div_pow, ← Nat.shiftRight_eq_div_pow, Nat.shiftRight_xor_distrib]
  have hk0 : K / 2 ^ 15 = 0 := by omega
  rw [hk0, Nat.xor_zero] at hd
  congr 1
  apply propext
  constructor <;> intro h <;> omega
 have low : (A ^^^ K) * 2 % 65536 = (A * 2 % 65536) ^^^ (K * 2) := by
  have h1 : (A ^^^ K) * 2 = A * 2 ^^^ K * 2 := by
   have := Nat.shiftLeft_xor_distrib (a := A) (b := K) (i := 1)
   simpa [Nat.shiftLeft_eq] using this
  rw [h1, show (65536 : Nat) = 2 ^ 16 from rfl, Nat.xor_mod_two_pow]
  congr 1
  exact Nat.mod_eq_of_lt (by omega)
 unfold bitV
 rw [top, low]
 split
 ·rw [Nat.xor_assoc]
 ·rw [Nat.xor_zero]
theorem halfV_next (s x : Nat) (hs : s < 65536) (hx : x < 16) : halfV s x = nextV s x := by
 obtain ⟨h, hh⟩ : ∃ h, s / 4096 = h := ⟨_, rfl⟩
 have h16 : h < 16 := by omega
 have t0 : decide (32768 ≤ s) = bit8 h 3 := by unfold bit8; rw [Bool.eq_iff_iff]; simp; omega
 have t1 : decide (32768 ≤ s * 2 % 65536) = bit8 h 2 := by unfold bit8; rw [Bool.eq_iff_iff]; simp; omega
 have t2 : decide (32768 ≤ s * 2 % 65536 * 2 % 65536) = bit8 h 1 := by unfold bit8; rw [Bool.eq_iff_iff]; simp; omega
 have t3 : decide (32768 ≤ s * 2 % 65536 * 2 % 65536 * 2 % 65536) = bit8 h 0 := by unfold bit8; rw [Bool.eq_iff_iff]; simp; omega
 have e16 : s * 2 % 65536 * 2 % 65536 * 2 % 65536 * 2 % 65536 = s * 16 % 65536 := by omega
 unfold halfV
 have s0 : bitV s (bit8 x 3) = (s * 2 % 65536) ^^^ ((0 * 2) ^^^ (if bit8 h 3 != bit8 x 3 then 4129 else 0)) := by
  have := bitV_lin s 0 (bit8 x 3) hs (by omega)
  rwa [Nat.xor_zero, t0] at this
 obtain ⟨K1, hK1⟩ : ∃ K, (0 * 2) ^^^ (if bit8 h 3 != bit8 x 3 then 4129 else 0) = K := ⟨_, rfl⟩
 have l1 : K1 < 8192 := by rw [← hK1]; split <;> simp
 rw [s0, hK1, bitV_lin _ _ _ (by omega) (by omega), t1]
 obtain ⟨K2, hK2⟩ : ∃ K, (K1 * 2) ^^^ (if bit8 h 2 != bit8 x 2 then 4129 else 0) = K := ⟨_, rfl⟩
 have l2 : K2 < 16384 := by rw [← hK2]; exact Nat.xor_lt_two_pow (n := 14) (by omega) (by split <;> omega)
 rw [hK2, bitV_lin _ _ _ (by omega) (by omega), t2]
 obtain ⟨K3, hK3⟩ : ∃ K, (K2 * 2) ^^^ (if bit8 h 1 != bit8 x 1 then 4129 else 0) = K := ⟨_, rfl⟩
 have l3 : K3 < 32768 := by rw [← hK3]; exact Nat.xor_lt_two_pow (n := 15) (by omega) (by split <;> omega)
 rw [hK3, bitV_lin _ _ _ (by omega) (by omega), t3, e16]
 unfold nextV
 congr 1
 rw [hh, ← hK3, ← hK2, ← hK1]
 have fin : ∀ h, h < 16 → ∀ x, x < 16 → ((((0 * 2 ^^^ if bit8 h 3 != bit8 x 3 then 4129 else 0) * 2 ^^^ if bit8 h 2 != bit8 x 2 then 4129 else 0) * 2 ^^^ if bit8 h 1 != bit8 x 1 then 4129 else 0) * 2 ^^^ if bit8 h 0 != bit8 x 0 then 4129 else 0) = halves (h ^^^ x) := by decide +kernel
 exact fin h h16 x hx
theorem byteV_next (s x : Nat) (hs : s < 65536) (hx : x < 256) : byteV s x = nextV (nextV s (x / 16)) (x % 16) := by
 have h1 : halfV s (x / 16) < 65536 := bitV_lt _ _
 rw [byteV_half s x hx, halfV_next _ _ h1 (by omega), halfV_next s _ hs (by omega)]
end Go.Proofs.YtfnifgppblbjhaaGreatDoor
namespace Go.Proofs.YtfnifgppblbjhaaGreatDoor
set_option maxHeartbeats 8000000
open Go.ChangeShapes Go.WideShapes Go.ChangeAt Go.RowKit
def lens : List Int := [31, 28, 31, 30, 31, 30, 31, 31, 30, 31, 30, 31]
structure Tab (w : World) : Prop where
 size : 2 < w.heap.size
 cell : ∀ i, i < 12 → w.cell? ⟨2, i, none⟩ = some (.int .i64 (lens.getD i 0))
 size2 : 1 < w.heap.size
 cell2 : ∀ i, i < 16 → w.cell? ⟨1, i, none⟩ = some (.int .u16 (halves i : Nat))
theorem Tab.below {w w' : World} (h : Tab w) (hb : Below w.heap.size w w') : Tab w' :=
 ⟨Nat.lt_of_lt_of_le h.size hb.size, fun i hi => (hb.cell (p := ⟨2, i, none⟩) h.size).trans (h.cell i hi), Nat.lt_of_lt_of_le h.size2 hb.size, fun i hi => (hb.cell (p := ⟨1, i, none⟩) h.size2).trans (h.cell2 i hi)⟩
theorem Tab.drewN {w : World} (h : Tab w) (n : Nat) : Tab (w.drewN n) := ⟨h.size, h.cell, h.size2, h.cell2⟩
theorem Tab.drew {w : World} (h : Tab w) : Tab w.drew := ⟨h.size, h.cell, h.size2, h.cell2⟩
theorem Tab.alloc {w : World} (h : Tab w) (o : Obj) : Tab (w.alloc o) := h.below ((Below.refl _ _).alloc (Nat.le_refl _) _)
end Go.Proofs.YtfnifgppblbjhaaGreatDoor
