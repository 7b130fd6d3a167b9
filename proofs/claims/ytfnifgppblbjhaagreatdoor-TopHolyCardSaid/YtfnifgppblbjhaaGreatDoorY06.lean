/- Part of the proof of TopHoly. -/
import Derived.Test.YtfnifgppblbjhaaGreatDoorY01
import Derived.Test.YtfnifgppblbjhaaGreatDoorY03
import Derived.Test.YtfnifgppblbjhaaGreatDoorY05
import Derived.DeepKeys4
import Derived.Maps.Own
namespace Go.Proofs.YtfnifgppblbjhaaGreatDoor
set_option maxHeartbeats 8000000
open Go.RowKit
set_option linter.unusedVariables false
set_option linter.unusedSimpArgs false
def kindR (m d : Int) (ab : Bool) : Int :=
 if m = 1 then (if d = 1 ∨ d = 2 then 1 else if d = 10 then 2 else if d = 15 ∨ (ab = true ∧ d = 16) then 3 else if d = 22 ∨ (ab = true ∧ d = 23) then 4 else 0)
 else if m = 8 ∧ (d = 15 ∨ (ab = true ∧ d = 16)) then 5 else if m = 8 ∧ (d = 21 ∨ (ab = true ∧ d = 22)) then 6
 else if m = 10 ∧ (d = 6 ∨ (ab = true ∧ d = 7)) then 7 else 0
theorem kindV_R (m d : Int) (ab : Bool) : kindV m d ab = kindR m d ab := by
 by_cases h1 : m = 1
 ·subst h1
  unfold kindV holyV kindR
  simp only [true_and, if_true, show ¬ ((1 : Int) = 8) by omega, show ¬ ((1 : Int) = 10) by omega, false_and, if_false]
  cases ab <;> repeat' split
  all_goals first | rfl | (exfalso; simp_all; done) | (exfalso; simp_all; omega)
 ·by_cases h8 : m = 8
  ·subst h8
   unfold kindV holyV kindR
   simp only [true_and, if_true, show ¬ ((8 : Int) = 1) by omega, show ¬ ((8 : Int) = 10) by omega, false_and, if_false]
   cases ab <;> repeat' split
   all_goals first | rfl | (exfalso; simp_all; done) | (exfalso; simp_all; omega)
  ·by_cases h10 : m = 10
   ·subst h10
    unfold kindV holyV kindR
    simp only [true_and, if_true, show ¬ ((10 : Int) = 1) by omega, show ¬ ((10 : Int) = 8) by omega, false_and, if_false]
    cases ab <;> repeat' split
    all_goals first | rfl | (exfalso; simp_all; done) | (exfalso; simp_all; omega)
   ·unfold kindV holyV kindR
    simp [h1, h8, h10]
theorem kindV_bd (m d : Int) (ab : Bool) : 0 ≤ kindV m d ab ∧ kindV m d ab ≤ 7 := by
 rw [kindV_R]; unfold kindR
 repeat' split
 all_goals omega
def offK (L i : Int) (ab : Bool) : Int :=
 if i = 0 ∨ i = 1 then 1 else if i = 9 then 2 else if i = 14 ∨ (ab = true ∧ i = 15) then 3 else if i = 21 ∨ (ab = true ∧ i = 22) then 4
 else if i = L - 163 ∨ (ab = true ∧ i = L - 162) then 5 else if i = L - 157 ∨ (ab = true ∧ i = L - 156) then 6
 else if i = L - 113 ∨ (ab = true ∧ i = L - 112) then 7 else 0
theorem hcum_9 {h : Int} (hy : Yr h) : hcum h 8 = ylen h - 147 ∧ hcum h 9 = ylen h - 118 ∧ hcum h 10 = ylen h - 88 ∧ hcum h 1 = 30 := by
 have a := hcum_7 hy
 obtain ⟨e1, e2, e3, e4, e5, e6, e7, e8, e9, e10, e11, e12, e13⟩ := hdim_0 hy
 have f8 : hcum h 8 = hcum h 7 + hdim h 8 := rfl
 have f9 : hcum h 9 = hcum h 8 + hdim h 9 := rfl
 have f10 : hcum h 10 = hcum h 9 + hdim h 10 := rfl
 have f1 : hcum h 1 = 0 + hdim h 1 := rfl
 omega
theorem off1 {L d : Int} (ab : Bool) (d1 : 1 ≤ d) (d2 : d ≤ 30) (hL : 353 ≤ L) : kindR 1 d ab = offK L (d - 1) ab := by
 unfold kindR offK
 rw [if_pos rfl]
 cases ab <;> simp only [Bool.false_eq_true, false_and, or_false, true_and] <;> repeat' split
 all_goals first | rfl | (exfalso; omega)
theorem off8 {L d : Int} (ab : Bool) (d1 : 1 ≤ d) (d2 : d ≤ 30) (hL : 353 ≤ L) : kindR 8 d ab = offK L (L - 178 + d) ab := by
 unfold kindR offK
 rw [if_neg (by omega)]
 cases ab <;> simp only [Bool.false_eq_true, false_and, or_false, true_and] <;> repeat' split
 all_goals first | rfl | (exfalso; omega)
theorem off10 {L d : Int} (ab : Bool) (d1 : 1 ≤ d) (d2 : d ≤ 30) (hL : 353 ≤ L) : kindR 10 d ab = offK L (L - 119 + d) ab := by
 unfold kindR offK
 rw [if_neg (by omega), if_neg (by omega), if_neg (by omega)]
 cases ab <;> simp only [Bool.false_eq_true, false_and, or_false, true_and] <;> repeat' split
 all_goals first | rfl | (exfalso; omega)
theorem off_no {L o : Int} (ab : Bool) (hL : 353 ≤ L) (r1 : 30 ≤ o) (r2 : o < L - 177 ∨ (L - 147 ≤ o ∧ o < L - 118) ∨ L - 88 ≤ o) : offK L o ab = 0 := by
 unfold offK
 cases ab <;> simp only [Bool.false_eq_true, false_and, or_false, true_and] <;> repeat' split
 all_goals first | rfl | (exfalso; omega)
theorem kind_off {h m d : Int} (c : HMay h m d) (ab : Bool) : kindV m d ab = offK (ylen h) (hnum h m d - ny h) ab := by
 obtain ⟨hy, m1, m2, d1, d2⟩ := c.yr
 have b := hnum_bd c
 have lb := ylen_bd hy
 have e7 := hcum_7 hy
 obtain ⟨e8, e9, e10, e1⟩ := hcum_9 hy
 have u : hnum h m d = ny h + hcum h (m.toNat - 1) + d - 1 := rfl
 rw [kindV_R]
 by_cases q1 : m = 1
 ·subst q1
  have z : hcum h ((1 : Int).toNat - 1) = 0 := rfl
  rw [z] at u
  rw [show hnum h 1 d - ny h = d - 1 by omega]
  exact off1 ab d1 d2 lb.1
 ·by_cases q8 : m = 8
  ·subst q8
   have z : hcum h ((8 : Int).toNat - 1) = hcum h 7 := rfl
   rw [z, e7] at u
   rw [show hnum h 8 d - ny h = ylen h - 178 + d by omega]
   exact off8 ab d1 d2 lb.1
  ·by_cases q10 : m = 10
   ·subst q10
    have z : hcum h ((10 : Int).toNat - 1) = hcum h 9 := rfl
    rw [z, e9] at u
    rw [show hnum h 10 d - ny h = ylen h - 119 + d by omega]
    exact off10 ab d1 d2 lb.1
   ·have k : kindR m d ab = 0 := by unfold kindR; simp [q1, q8, q10]
    rw [k]
    have l1 := hcum_mono h 1 (m.toNat - 1) (by omega)
    refine (off_no ab lb.1 (by omega) ?_).symm
    by_cases c1 : m < 8
    ·have l2 := hcum_mono h m.toNat 7 (by omega)
     left; omega
    ·by_cases c2 : m = 9
     ·subst c2
      have z1 : hcum h ((9 : Int).toNat - 1) = hcum h 8 := rfl
      have z2 : hcum h ((9 : Int).toNat) = hcum h 9 := rfl
      right; left; omega
     ·have l2 := hcum_mono h 10 (m.toNat - 1) (by omega)
      right; right; omega
def KindN (n : Int) (ab : Bool) (k : Int) : Prop := ((n < ny 3762 ∨ ny 9999 + ylen 9999 ≤ n) ∧ k = 0) ∨ ∃ h m d, HMay h m d ∧ hnum h m d = n ∧ kindV m d ab = k
def RestP (n : Int) (ab : Bool) : Prop := ∃ h m d, HMay h m d ∧ hnum h m d = n ∧ (n % 7 = 6 ∨ kindV m d ab ≠ 0)
theorem hnum_one {h m d h' m' d' : Int} (c : HMay h m d) (c' : HMay h' m' d') (e : hnum h m d = hnum h' m' d') : h = h' ∧ m = m' ∧ d = d' := by
 have b := hnum_bd c
 have b' := hnum_bd c'
 obtain ⟨hy, m1, m2, _⟩ := c.yr
 obtain ⟨hy', m1', m2', _⟩ := c'.yr
 have e1 : h = h' := hyear_one (n := hnum h m d) hy hy' (by omega) (by omega) (by omega) (by omega)
 subst e1
 have e2 : m = m' := hmonth_one (h := h) (r := hnum h m d - ny h) m1 m1' (by omega) (by omega) (by omega) (by omega)
 subst e2
 refine ⟨rfl, rfl, ?_⟩
 unfold hnum at e; omega
theorem kindN_ex (n : Int) (ab : Bool) : ∃ k, KindN n ab k ∧ 0 ≤ k ∧ k ≤ 7 := by
 by_cases c : n < ny 3762 ∨ ny 9999 + ylen 9999 ≤ n
 ·exact ⟨0, .inl ⟨c, rfl⟩, by omega, by omega⟩
 ·obtain ⟨h, m, d, c1, c2⟩ := hdate_at n (by omega) (by have := ny_10000; omega)
  exact ⟨_, .inr ⟨h, m, d, c1, c2, rfl⟩, kindV_bd m d ab⟩
theorem restP_of {h m d n : Int} (c : HMay h m d) (e : hnum h m d = n) (ab : Bool) : RestP n ab ↔ (n % 7 = 6 ∨ kindV m d ab ≠ 0) := by
 constructor
 ·rintro ⟨h', m', d', c', e', x⟩
  obtain ⟨_, rfl, rfl⟩ := hnum_one c c' (by omega)
  exact x
 ·exact fun x => ⟨h, m, d, c, e, x⟩
theorem restP_no {n : Int} (c : n < ny 3762 ∨ ny 9999 + ylen 9999 ≤ n) (ab : Bool) : ¬ RestP n ab := by
 rintro ⟨h', m', d', c', e', x⟩
 have := hnum_last c'
 omega
theorem rest_kind {n : Int} {ab : Bool} {k : Int} (hk : KindN n ab k) : RestP n ab ↔ ((ny 3762 ≤ n ∧ n < ny 9999 + ylen 9999) ∧ (n % 7 = 6 ∨ k ≠ 0)) := by
 rcases hk with ⟨a, b⟩ | ⟨h, m, d, c, e, rfl⟩
 ·constructor
  ·exact fun x => absurd x (restP_no a ab)
  ·intro x; omega
 ·rw [restP_of c e]
  have := hnum_last c
  constructor
  ·exact fun x => ⟨by omega, x⟩
  ·exact fun x => x.2
theorem feast_year {n : Int} {ab : Bool} {k : Int} (hk : KindN n ab k) (h0 : k ≠ 0) : ∃ h, Yr h ∧ ny h ≤ n ∧ n < ny h + ylen h ∧ k = offK (ylen h) (n - ny h) ab := by
 rcases hk with ⟨a, b⟩ | ⟨h, m, d, c, e, rfl⟩
 ·exact absurd b h0
 ·have b := hnum_bd c
  have o := kind_off c ab
  obtain ⟨hy, _⟩ := c.yr
  rw [e] at b o
  exact ⟨h, hy, b.1, b.2.1, o⟩
theorem offK_in {L i : Int} {ab : Bool} (h : offK L i ab ≠ 0) : i = 0 ∨ i = 1 ∨ i = 9 ∨ i = 14 ∨ i = 15 ∨ i = 21 ∨ i = 22 ∨ i = L - 163 ∨ i = L - 162 ∨ i = L - 157 ∨ i = L - 156 ∨ i = L - 113 ∨ i = L - 112 := by
 unfold offK at h
 repeat' split at h
 all_goals omega
theorem feast_apart {n : Int} {ab : Bool} {k k2 k3 : Int} (hk : KindN n ab k) (hk2 : KindN (n + 2) ab k2) (hk3 : KindN (n + 3) ab k3) (h0 : k ≠ 0) : k2 = 0 ∧ k3 = 0 := by
 obtain ⟨h, hy, a, b, o⟩ := feast_year hk h0
 have lb := ylen_bd hy
 have i1 := offK_in (L := ylen h) (i := n - ny h) (ab := ab) (by omega)
 constructor
 ·refine Classical.byContradiction fun c => ?_
  obtain ⟨h', hy', a', b', o'⟩ := feast_year hk2 c
  have e : h = h' := hyear_one (n := n + 2) hy hy' (by omega) (by omega) (by omega) (by omega)
  subst e
  have i2 := offK_in (L := ylen h) (i := n + 2 - ny h) (ab := ab) (by omega)
  omega
 ·refine Classical.byContradiction fun c => ?_
  obtain ⟨h', hy', a', b', o'⟩ := feast_year hk3 c
  have e : h = h' := hyear_one (n := n + 3) hy hy' (by omega) (by omega) (by omega) (by omega)
  subst e
  have i2 := offK_in (L := ylen h) (i := n + 3 - ny h) (ab := ab) (by omega)
  omega
theorem no_four {n : Int} {ab : Bool} (h0 : RestP n ab) (h1 : RestP (n + 1) ab) (h2 : RestP (n + 2) ab) (h3 : RestP (n + 3) ab) : False := by
 obtain ⟨k0, e0, _⟩ := kindN_ex n ab
 obtain ⟨k1, e1, _⟩ := kindN_ex (n + 1) ab
 obtain ⟨k2, e2, _⟩ := kindN_ex (n + 2) ab
 obtain ⟨k3, e3, _⟩ := kindN_ex (n + 3) ab
 obtain ⟨k4, e4, _⟩ := kindN_ex (n + 1 + 3) ab
 have r0 := (rest_kind e0).1 h0
 have r1 := (rest_kind e1).1 h1
 have r2 := (rest_kind e2).1 h2
 have r3 := (rest_kind e3).1 h3
 have f0 := feast_apart e0 e2 e3
 have f1 := feast_apart e1 (k2 := k3) (by rw [show n + 1 + 2 = n + 3 by omega]; exact e3) e4
 by_cases c0 : k0 = 0
 ·by_cases c1 : k1 = 0
  ·omega
  ·have := f1 c1; omega
 ·have := f0 c0; omega
theorem row_ex {n : Int} {ab : Bool} (h : RestP n ab) : ∃ a b, a ≤ n ∧ n ≤ b ∧ b - a ≤ 2 ∧ (∀ x, a ≤ x → x ≤ b → RestP x ab) ∧ ¬ RestP (a - 1) ab ∧ ¬ RestP (b + 1) ab := by
 have up : ∃ b, n ≤ b ∧ b - n ≤ 2 ∧ (∀ x, n ≤ x → x ≤ b → RestP x ab) ∧ ¬ RestP (b + 1) ab := by
  by_cases c1 : RestP (n + 1) ab
  ·by_cases c2 : RestP (n + 1 + 1) ab
   ·refine ⟨n + 2, by omega, by omega, ?_, fun c => no_four h c1 (by rw [show n + 2 = n + 1 + 1 by omega]; exact c2) (by rw [show n + 3 = n + 2 + 1 by omega]; exact c)⟩
    intro x x1 x2
    by_cases d0 : x = n
    ·rw [d0]; exact h
    ·by_cases d1 : x = n + 1
     ·rw [d1]; exact c1
     ·rw [show x = n + 1 + 1 by omega]; exact c2
   ·refine ⟨n + 1, by omega, by omega, ?_, c2⟩
    intro x x1 x2
    by_cases d0 : x = n
    ·rw [d0]; exact h
    ·rw [show x = n + 1 by omega]; exact c1
  ·exact ⟨n, by omega, by omega, fun x x1 x2 => by rw [show x = n by omega]; exact h, c1⟩
 have down : ∃ a, a ≤ n ∧ n - a ≤ 2 ∧ (∀ x, a ≤ x → x ≤ n → RestP x ab) ∧ ¬ RestP (a - 1) ab := by
  by_cases c1 : RestP (n - 1) ab
  ·by_cases c2 : RestP (n - 1 - 1) ab
   ·refine ⟨n - 2, by omega, by omega, ?_, fun c => no_four c (by rw [show n - 2 - 1 + 1 = n - 1 - 1 by omega]; exact c2) (by rw [show n - 2 - 1 + 2 = n - 1 by omega]; exact c1) (by rw [show n - 2 - 1 + 3 = n by omega]; exact h)⟩
    intro x x1 x2
    by_cases d0 : x = n
    ·rw [d0]; exact h
    ·by_cases d1 : x = n - 1
     ·rw [d1]; exact c1
     ·rw [show x = n - 1 - 1 by omega]; exact c2
   ·refine ⟨n - 1, by omega, by omega, ?_, c2⟩
    intro x x1 x2
    by_cases d0 : x = n
    ·rw [d0]; exact h
    ·rw [show x = n - 1 by omega]; exact c1
  ·exact ⟨n, by omega, by omega, fun x x1 x2 => by rw [show x = n by omega]; exact h, c1⟩
 obtain ⟨b, b1, b2, b3, b4⟩ := up
 obtain ⟨a, a1, a2, a3, a4⟩ := down
 have all : ∀ x, a ≤ x → x ≤ b → RestP x ab := fun x x1 x2 => by
  by_cases c : x ≤ n
  ·exact a3 x x1 c
  ·exact b3 x (by omega) x2
 refine ⟨a, b, a1, b1, ?_, all, a4, b4⟩
 refine Classical.byContradiction fun c => ?_
 exact no_four (n := a) (all a (by omega) (by omega)) (all (a + 1) (by omega) (by omega)) (all (a + 2) (by omega) (by omega)) (all (a + 3) (by omega) (by omega))
end Go.Proofs.YtfnifgppblbjhaaGreatDoor
namespace Go.Proofs.YtfnifgppblbjhaaGreatDoor
set_option maxHeartbeats 8000000
open Go Go.RowKit
open Go.WideMaps (KeyLaw)
set_option linter.unusedVariables false
set_option linter.unusedSimpArgs false
theorem s2Laid : laidOutB Tryz.prog = true := by kernel_rfl
theorem placeRow : 154 < Tryz.prog.types.size := of_decide_eq_true (by kernel_rfl)
theorem placeLaw : KeyLaw Tryz.prog 154 := deep_law_laid s2Laid (m := 2) (by omega) placeRow (by kernel_rfl) (by kernel_rfl)
theorem placeKey : Tryz.prog.keyType 154 = true := by kernel_rfl
theorem placeCells : Tryz.prog.cellsOf 154 = 2 := by kernel_rfl
theorem intCells : Tryz.prog.cellsOf 3 = 1 := by kernel_rfl
theorem holyZero (w : World) : (zeroValue 150).run Tryz.prog w = .ok (.agg #[.int .i64 0, .bool false]) w := by kernel_rfl
theorem key_two {P : Program} {k it : TypeId} {f g : Field} (hu : P.underlying k = some (.struct #[f, g])) (hf : f.name ≠ "_") (hg : g.name ≠ "_") (ht : f.type = it) (ht2 : g.type = it) (ho : f.offset = 0) (ho2 : g.offset = 1)
  (hi : P.underlying it = some (.int .i64)) (hci : P.cellsOf it = 1) (hck : P.cellsOf k = 2) (hk : P.keyType k = true) (hn : 0 < P.types.size) {m d : Int} (hm : (Lit.int .i64 m).wf = true) (hd : (Lit.int .i64 d).wf = true) :
  keyOf P k (.agg #[.int .i64 m, .int .i64 d]) = some (.string (keyBytes [.int .i64 m, .int .i64 d])) := by
 obtain ⟨N, hN⟩ : ∃ N, P.types.size = N + 1 := ⟨P.types.size - 1, by omega⟩
 simp [keyOf, hu, hk, Value.formed, hck, hN, Program.keyLits, hi, hci, hm, hd, Value.cells, ht, ht2, ho, ho2, hf, hg]
theorem place_key {m d : Int} (hm : (Lit.int .i64 m).wf = true) (hd : (Lit.int .i64 d).wf = true) : keyOf Tryz.prog 154 (.agg #[.int .i64 m, .int .i64 d]) = some (.string (keyBytes [.int .i64 m, .int .i64 d])) :=
 key_two Tryz.underlying154 (by decide) (by decide) rfl rfl rfl rfl Tryz.underlying3 intCells placeCells placeKey (Nat.lt_of_le_of_lt (Nat.zero_le _) placeRow) hm hd
def keyA (j : Nat) : Value := .agg #[.int .i64 (row13 j).1.1, .int .i64 (row13 j).1.2]
def valA (j : Nat) : Value := .agg #[.int .i64 (row13 j).2.1, .bool (row13 j).2.2]
theorem key_apart {i j : Nat} (hi : i < 13) (hj : j < 13) (h : keyA i = keyA j) : i = j := by
 refine row_apart hi hj ?_
 unfold keyA at h
 simp only [Value.agg.injEq, Array.mk.injEq, List.cons.injEq, Value.int.injEq, true_and, and_true] at h
 exact Prod.ext h.1 h.2
theorem key_wf {j : Nat} (hj : j < 13) : ∃ l, keyOf Tryz.prog 154 (keyA j) = some l := by
 refine ⟨_, place_key ?_ ?_⟩
 all_goals rcases thirteenN hj with e | e | e | e | e | e | e | e | e | e | e | e | e <;> subst e <;> decide
def MapHas (w : World) (b : Nat) (done : Nat → Bool) : Prop :=
 ∃ es clock, w.heap[b]? = some (.map es clock) ∧ (∀ e ∈ es.toList, ∃ j, j < 13 ∧ done j = true ∧ e.key = keyA j ∧ e.val = valA j) ∧ ∀ j, j < 13 → done j = true → ∃ e ∈ es.toList, e.key = keyA j
theorem MapHas.lt {w : World} {b : Nat} {done : Nat → Bool} (h : MapHas w b done) : b < w.heap.size := by
 obtain ⟨es, clock, h1, _⟩ := h
 exact (Array.getElem?_eq_some_iff.1 h1).1
theorem MapHas.below {w w' : World} {b n : Nat} {done : Nat → Bool} (h : MapHas w b done) (hb : Below n w w') (hn : b < n) : MapHas w' b done := by
 obtain ⟨es, clock, h1, h2⟩ := h
 exact ⟨es, clock, (hb.block b hn).trans h1, h2⟩
theorem MapHas.kept {w w' : World} {b : Nat} {done : Nat → Bool} (h : MapHas w b done) (hb : Below w.heap.size w w') : MapHas w' b done := h.below hb h.lt
theorem has_insert {w0 w : World} {n b : Nat} {done : Nat → Bool} (h : MapHas w b done) (hB : Below n w0 w) (hn : n ≤ b) {j : Nat} (hj : j < 13) (hd : done j = false) :
  ∃ w', (Instr.mapUpdate 151 (.map (some b)) (keyA j) (valA j)).run Tryz.prog w = .ok () w' ∧ MapHas w' b (fun i => if i = j then true else done i) ∧ Below n w0 w' := by
 have hlt := h.lt
 obtain ⟨es, clock, h1, h2, h3⟩ := h
 have hu := Tryz.underlying151
 obtain ⟨l, hl⟩ := key_wf hj
 have hck := placeLaw.check w false hl
 rcases placeLaw.find w hl es.toList (fun e he => by obtain ⟨i, hi, _, e1, _⟩ := h2 e he; rw [e1]; exact key_wf hi) with ⟨f1, f2⟩ | ⟨i, e0, f1, f2, f3⟩
 ·refine ⟨ChangeMaps.setBlock w b (.map (es.push ⟨keyA j, valA j, clock⟩) (clock + 1)), ?_, ⟨es.push ⟨keyA j, valA j, clock⟩, clock + 1, ?_, ?_, ?_⟩, ?_⟩
  ·simp [Instr.mapUpdate, run_underlying hu, MapKept.run_getObj_map h1, hck, f1, MapKept.run_setObj_map _ h1, Result.andThen, ChangeMaps.setBlock]
  ·simp [ChangeMaps.setBlock, hlt]
  ·intro e he
   simp only [Array.toList_push, List.mem_append, List.mem_singleton] at he
   rcases he with he | rfl
   ·obtain ⟨i, a1, a2, a3, a4⟩ := h2 e he
    refine ⟨i, a1, ?_, a3, a4⟩
    dsimp only
    split
    ·rfl
    ·exact a2
   ·exact ⟨j, hj, by simp, rfl, rfl⟩
  ·intro i hi hdi
   dsimp only at hdi
   by_cases c : i = j
   ·subst c
    exact ⟨⟨keyA i, valA i, clock⟩, by simp, rfl⟩
   ·rw [if_neg c] at hdi
    obtain ⟨e, e1, e2⟩ := h3 i hi hdi
    exact ⟨e, by simp [e1], e2⟩
  ·refine ⟨hB.os, hB.tape, hB.output, by simpa [ChangeMaps.setBlock] using hB.size, fun k hk => ?_⟩
   rw [← hB.block k hk]
   simp only [ChangeMaps.setBlock]
   exact Array.getElem?_setIfInBounds_ne (by omega)
 ·exfalso
  obtain ⟨i', a1, a2, a3, a4⟩ := h2 e0 (List.mem_of_getElem? f2)
  rw [f3] at a3
  have := key_apart hj a1 a3
  subst this
  rw [a2] at hd; cases hd
theorem has_lookup {w : World} {b : Nat} {m d : Int} (h : MapHas w b (fun _ => true)) (hm : (Lit.int .i64 m).wf = true) (hd : (Lit.int .i64 d).wf = true) :
  (Instr.lookup 151 (.map (some b)) (.agg #[.int .i64 m, .int .i64 d]) false).run Tryz.prog w = .ok (.agg #[.int .i64 (holyV m d).1, .bool (holyV m d).2]) w := by
 obtain ⟨es, clock, h1, h2, h3⟩ := h
 have hu := Tryz.underlying151
 have hl := place_key hm hd
 have hck := placeLaw.check w es.isEmpty hl
 rcases placeLaw.find w hl es.toList (fun e he => by obtain ⟨i, hi, _, e1, _⟩ := h2 e he; rw [e1]; exact key_wf hi) with ⟨f1, f2⟩ | ⟨i, e0, f1, f2, f3⟩
 ·have hv : holyV m d = (0, false) := row_none (fun j hj c => by
   obtain ⟨e, e1, e2⟩ := h3 j hj rfl
   refine f2 e e1 ?_
   rw [e2]; unfold keyA; rw [c])
  rw [hv]
  simp [Instr.lookup, run_underlying hu, MapKept.run_getObj_map h1, hck, f1, holyZero, Result.andThen]
 ·obtain ⟨j, a1, a2, a3, a4⟩ := h2 e0 (List.mem_of_getElem? f2)
  rw [f3] at a3
  unfold keyA at a3
  simp only [Value.agg.injEq, Array.mk.injEq, List.cons.injEq, Value.int.injEq, true_and, and_true] at a3
  have hv := row_val a1
  rw [← a3.1, ← a3.2] at hv
  simp [Instr.lookup, run_underlying hu, MapKept.run_getObj_map h1, hck, f1, Result.andThen, a4, valA, hv]
end Go.Proofs.YtfnifgppblbjhaaGreatDoor
namespace Go.Proofs.YtfnifgppblbjhaaGreatDoor
set_option maxHeartbeats 8000000
open Go Go.RowKit
set_option linter.unusedVariables false
set_option linter.unusedSimpArgs false
def opsIn (b : Option Code) : Array Oper := match b with
 | some (.seq _ (.seq (.region _ ops _) _)) => ops
 | _ => #[]
theorem holyOps_size : (opsIn Tryz.f66.body).size = 42 := by kernel_rfl
theorem mixedS2 : Tryz.prog.follows .mixedOrders = true := by kernel_rfl
theorem holyEdges : ((opsIn Tryz.f66.body).toList.zipIdx.all fun x => x.1.after.all fun e => decide (e.on < x.2)) = true := by kernel_rfl
def hmake : Oper := { dst := some 1, op := .makeMap 151 none, type := 151, pos := "feast.go:24", after := #[], guard := none }
def hkey (j : Nat) : Oper := { dst := some (2 * j + 2), op := .build 154 #[(0, .const (.int .i64 (row13 j).1.1)), (1, .const (.int .i64 (row13 j).1.2))], type := 154, pos := "feast.go:24", after := #[], guard := none }
def hval (j : Nat) : Oper := { dst := some (2 * j + 3), op := .build 150 #[(0, .const (.int .i64 (row13 j).2.1)), (1, .const (.bool (row13 j).2.2))], type := 150, pos := "feast.go:24", after := #[], guard := none }
def hins (j : Nat) : Oper := { dst := none, op := .insert 151 (.tmp 1) (.tmp (2 * j + 2)) (.tmp (2 * j + 3)), type := 0, pos := "feast.go:24", after := #[{ on := 0, ground := .data }, { on := 3 * j + 1, ground := .data }, { on := 3 * j + 2, ground := .data }], guard := none }
theorem op_0 : (opsIn Tryz.f66.body)[0]? = some hmake := by kernel_rfl
theorem op_key {j : Nat} (h : j < 13) : (opsIn Tryz.f66.body)[3 * j + 1]? = some (hkey j) := by
 rcases thirteenN h with e | e | e | e | e | e | e | e | e | e | e | e | e <;> subst e <;> kernel_rfl
theorem op_val {j : Nat} (h : j < 13) : (opsIn Tryz.f66.body)[3 * j + 2]? = some (hval j) := by
 rcases thirteenN h with e | e | e | e | e | e | e | e | e | e | e | e | e <;> subst e <;> kernel_rfl
theorem op_ins {j : Nat} (h : j < 13) : (opsIn Tryz.f66.body)[3 * j + 3]? = some (hins j) := by
 rcases thirteenN h with e | e | e | e | e | e | e | e | e | e | e | e | e <;> subst e <;> kernel_rfl
theorem op_40 : ((opsIn Tryz.f66.body)[40]?).map (fun o => (o.dst, o.op, o.guard)) = some (some 28, .move (.tmp 1), none) := by kernel_rfl
theorem op_41 : ((opsIn Tryz.f66.body)[41]?).map (fun o => (o.dst, o.op, o.guard)) = some (some 0, .assign (.tmp 28), none) := by kernel_rfl
theorem op_all {i : Nat} (h : i < 42) : i = 0 ∨ (∃ j, j < 13 ∧ i = 3 * j + 1) ∨ (∃ j, j < 13 ∧ i = 3 * j + 2) ∨ (∃ j, j < 13 ∧ i = 3 * j + 3) ∨ i = 40 ∨ i = 41 := by
 by_cases c : i = 0 ∨ i = 40 ∨ i = 41
 ·omega
 ·have : i % 3 = 0 ∨ i % 3 = 1 ∨ i % 3 = 2 := by omega
  rcases this with r | r | r
  ·exact .inr (.inr (.inr (.inl ⟨i / 3 - 1, by omega, by omega⟩)))
  ·exact .inr (.inl ⟨i / 3, by omega, by omega⟩)
  ·exact .inr (.inr (.inl ⟨i / 3, by omega, by omega⟩))
theorem all_listed {md : Region.Mode} {ops : Array Oper} {listed : Array Bool} (hE : (ops.toList.zipIdx.all fun x => x.1.after.all fun e => decide (e.on < x.2)) = true) (hs : listed.size = ops.size) (hr : Region.ready md ops listed = []) :
  ∀ i, i < ops.size → listed.getD i false = true := by
 intro i
 induction i using Nat.strongRecOn with
 | ind i ih =>
  intro hi
  refine Classical.byContradiction fun c => ?_
  have hm : i ∈ Region.ready md ops listed := by
   rw [mem_ready]
   have hl : i < listed.size := by omega
   refine ⟨by simpa [hl] using c, ops[i], by simp [hi], fun e he _ => ?_⟩
   have hx : (ops[i], i) ∈ ops.toList.zipIdx := by
    rw [List.mem_zipIdx_iff_getElem?]
    simp [hi]
   have h2 := List.all_eq_true.1 hE _ hx
   have h3 := Array.all_eq_true_iff_forall_mem.1 h2 e he
   have h4 : e.on < i := by simpa using h3
   exact ih _ h4 (by omega)
  rw [hr] at hm
  cases hm
structure HInv (W0 : World) (listed : Array Bool) (a : Act) (w : World) : Prop where
 size : listed.size = 42
 tmps : a.tmps.size = 29
 defers : a.defers = []
 start : listed.getD 0 false = false → w = W0
 made : listed.getD 0 false = true → a.tmps[1]? = some (.map (some W0.heap.size)) ∧ MapHas w W0.heap.size (fun j => listed.getD (3 * j + 3) false) ∧ Below W0.heap.size W0 w
 first : ∀ j, listed.getD (3 * j + 3) false = true → listed.getD 0 false = true
 keys : ∀ j, j < 13 → listed.getD (3 * j + 1) false = true → a.tmps[2 * j + 2]? = some (keyA j)
 vals : ∀ j, j < 13 → listed.getD (3 * j + 2) false = true → a.tmps[2 * j + 3]? = some (valA j)
 last : listed.getD 40 false = true → a.tmps[28]? = some (.map (some W0.heap.size))
 res : listed.getD 41 false = true → a.tmps[0]? = some (.map (some W0.heap.size))
theorem getD_set {listed : Array Bool} {i : Nat} (hi : i < listed.size) (j : Nat) : (listed.setIfInBounds i true).getD j false = if j = i then true else listed.getD j false := by
 by_cases c : j = i
 ·subst c; simp [hi]
 ·rw [if_neg c]; exact getD_set_ne false (Ne.symm c)
theorem tmp_set {ts : Array Value} {d : Nat} (hd : d < ts.size) (v : Value) (t : Nat) : (ts.setIfInBounds d v)[t]? = if t = d then some v else ts[t]? := by
 by_cases c : t = d
 ·subst c; simp [hd]
 ·rw [if_neg c]; exact Array.getElem?_setIfInBounds_ne (Ne.symm c)
theorem eval_tmp {a : Act} {t : Nat} {v : Value} (h : a.tmps[t]? = some v) : a.eval (.tmp t) = v := by
 show a.tmps.getD t undef = v
 simp [Array.getD_eq_getD_getElem?, h]
theorem MapHas.ext {w : World} {b : Nat} {f g : Nat → Bool} (h : MapHas w b f) (e : ∀ j, j < 13 → f j = g j) : MapHas w b g := by
 obtain ⟨es, clock, h1, h2, h3⟩ := h
 refine ⟨es, clock, h1, fun x hx => ?_, fun j hj hg => h3 j hj (by rw [e j hj]; exact hg)⟩
 obtain ⟨j, a1, a2, a3⟩ := h2 x hx
 exact ⟨j, a1, by rw [← e j a1]; exact a2, a3⟩
theorem wpOp_value {P : Program} {ops : Array Oper} {Q : Exit → Act → World → Prop} {i : Nat} {o : Oper} {K : Act → World → Prop} {a : Act} {w w' : World} {v : Value} (ho : ops[i]? = some o) (hg : o.guard = none)
  (hr : (execOp a.eval o).run P w = .ok (.value v) w') (hK : K (a.put o.dst v) w') : wpOp P ops Q i K a w := by
 unfold wpOp
 rw [ho]
 simp only [Region.wanted, hg, if_true]
 left
 unfold Oper.wp
 rw [hr]
 exact hK
theorem wpOp_skip {P : Program} {ops : Array Oper} {Q : Exit → Act → World → Prop} {i : Nat} {o : Oper} {K : Act → World → Prop} {a : Act} {w w' : World} (ho : ops[i]? = some o) (hg : o.guard = none)
  (hr : (execOp a.eval o).run P w = .ok .skip w') (hK : K (a.put o.dst undef) w') : wpOp P ops Q i K a w := by
 unfold wpOp
 rw [ho]
 simp only [Region.wanted, hg, if_true]
 left
 unfold Oper.wp
 rw [hr]
 exact hK
theorem run_key {j : Nat} (h : j < 13) (a : Act) (w : World) : (execOp a.eval (hkey j)).run Tryz.prog w = .ok (.value (keyA j)) w := by
 rcases thirteenN h with e | e | e | e | e | e | e | e | e | e | e | e | e <;> subst e <;> kernel_rfl
theorem run_val {j : Nat} (h : j < 13) (a : Act) (w : World) : (execOp a.eval (hval j)).run Tryz.prog w = .ok (.value (valA j)) w := by
 rcases thirteenN h with e | e | e | e | e | e | e | e | e | e | e | e | e <;> subst e <;> kernel_rfl
theorem op_40e : (((opsIn Tryz.f66.body)[40]?).map fun o => o.after[0]?) = some (some { on := 0, ground := .data }) := by kernel_rfl
theorem op_41e : (((opsIn Tryz.f66.body)[41]?).map fun o => o.after[0]?) = some (some { on := 40, ground := .data }) := by kernel_rfl
theorem run_move {o : Oper} {a : Act} {w : World} {x : Operand} {v : Value} (h : o.op = .move x ∨ o.op = .assign x) (hv : a.eval x = v) : (execOp a.eval o).run Tryz.prog w = .ok (.value v) w := by
 subst hv
 rcases h with h | h <;> simp [execOp, h]
theorem run_ins {j : Nat} {a : Act} {w w' : World} {x k v : Value} (h1 : a.eval (.tmp 1) = x) (h2 : a.eval (.tmp (2 * j + 2)) = k) (h3 : a.eval (.tmp (2 * j + 3)) = v)
  (hr : (Instr.mapUpdate 151 x k v).run Tryz.prog w = .ok () w') : (execOp a.eval (hins j)).run Tryz.prog w = .ok .skip w' := by
 simp [execOp, hins, h1, h2, h3, hr, Result.andThen]
theorem holy_step {W0 : World} {Q : Exit → Act → World → Prop} {listed : Array Bool} {a : Act} {w : World} {i : Nat} (h : HInv W0 listed a w) (hi : i ∈ Region.ready .any (opsIn Tryz.f66.body) listed) :
  wpOp Tryz.prog (opsIn Tryz.f66.body) Q i (HInv W0 (listed.setIfInBounds i true)) a w := by
 obtain ⟨h0, o, ho, hall⟩ := mem_ready.1 hi
 have hi42 : i < 42 := by
  have := (Array.getElem?_eq_some_iff.1 ho).1
  rw [holyOps_size] at this; exact this
 have hil : i < listed.size := by rw [h.size]; exact hi42
 have hz := h.size
 have gl := getD_set hil
 have tl := fun (d : Nat) (hd : d < 29) => tmp_set (ts := a.tmps) (d := d) (by rw [h.tmps]; exact hd)
 have hnot : listed.getD i false = false := by simpa [hil] using h0
 rcases op_all hi42 with rfl | ⟨j, hj, rfl⟩ | ⟨j, hj, rfl⟩ | ⟨j, hj, rfl⟩ | rfl | rfl
 ·have hw := h.start hnot
  subst hw
  refine wpOp_value op_0 rfl (v := .map (some w.heap.size)) (w' := w.alloc (.map #[] 0)) rfl ?_
  refine ⟨by simp [hz], by simp [Act.put, hmake, h.tmps], h.defers, ?_, ?_, ?_, ?_, ?_, ?_, ?_⟩
  ·intro c; rw [gl] at c; simp at c
  ·intro _
   refine ⟨by simp [Act.put, hmake, h.tmps], ⟨#[], 0, ?_, fun e he => by simp at he, ?_⟩, (Below.refl _ _).alloc (Nat.le_refl _) _⟩
   ·exact (MapKept.heap_alloc w _).1
   ·intro j hj c
    dsimp only at c
    rw [gl, if_neg (by omega)] at c
    have := h.first j c
    rw [this] at hnot; cases hnot
  ·intro j c
   rw [gl]; simp
  ·intro j hj c
   rw [gl, if_neg (by omega)] at c
   simp only [Act.put, hmake]
   rw [tl 1 (by omega), if_neg (by omega)]
   exact h.keys j hj c
  ·intro j hj c
   rw [gl, if_neg (by omega)] at c
   simp only [Act.put, hmake]
   rw [tl 1 (by omega), if_neg (by omega)]
   exact h.vals j hj c
  ·intro c
   rw [gl, if_neg (by omega)] at c
   simp only [Act.put, hmake]
   rw [tl 1 (by omega), if_neg (by omega)]
   exact h.last c
  ·intro c
   rw [gl, if_neg (by omega)] at c
   simp only [Act.put, hmake]
   rw [tl 1 (by omega), if_neg (by omega)]
   exact h.res c
 ·refine wpOp_value (op_key hj) rfl (run_key hj a w) ?_
  refine ⟨by simp [hz], by simp [Act.put, hkey, h.tmps], h.defers, ?_, ?_, ?_, ?_, ?_, ?_, ?_⟩
  ·intro c; rw [gl, if_neg (by omega)] at c; exact h.start c
  ·intro c
   rw [gl, if_neg (by omega)] at c
   obtain ⟨m1, m2, m3⟩ := h.made c
   refine ⟨?_, m2.ext (fun k hk => by rw [gl, if_neg (by omega)]), m3⟩
   simp only [Act.put, hkey]
   rw [tl _ (by omega), if_neg (by omega)]; exact m1
  ·intro k c
   rw [gl, if_neg (by omega)] at c
   rw [gl, if_neg (by omega)]; exact h.first k c
  ·intro k hk c
   simp only [Act.put, hkey]
   rw [tl _ (by omega)]
   by_cases e : k = j
   ·subst e; rw [if_pos rfl]
   ·rw [gl, if_neg (by omega)] at c
    rw [if_neg (by omega)]; exact h.keys k hk c
  ·intro k hk c
   rw [gl, if_neg (by omega)] at c
   simp only [Act.put, hkey]
   rw [tl _ (by omega), if_neg (by omega)]; exact h.vals k hk c
  ·intro c
   rw [gl, if_neg (by omega)] at c
   simp only [Act.put, hkey]
   rw [tl _ (by omega), if_neg (by omega)]; exact h.last c
  ·intro c
   rw [gl, if_neg (by omega)] at c
   simp only [Act.put, hkey]
   rw [tl _ (by omega), if_neg (by omega)]; exact h.res c
 ·refine wpOp_value (op_val hj) rfl (run_val hj a w) ?_
  refine ⟨by simp [hz], by simp [Act.put, hval, h.tmps], h.defers, ?_, ?_, ?_, ?_, ?_, ?_, ?_⟩
  ·intro c; rw [gl, if_neg (by omega)] at c; exact h.start c
  ·intro c
   rw [gl, if_neg (by omega)] at c
   obtain ⟨m1, m2, m3⟩ := h.made c
   refine ⟨?_, m2.ext (fun k hk => by rw [gl, if_neg (by omega)]), m3⟩
   simp only [Act.put, hval]
   rw [tl _ (by omega), if_neg (by omega)]; exact m1
  ·intro k c
   rw [gl, if_neg (by omega)] at c
   rw [gl, if_neg (by omega)]; exact h.first k c
  ·intro k hk c
   rw [gl, if_neg (by omega)] at c
   simp only [Act.put, hval]
   rw [tl _ (by omega), if_neg (by omega)]; exact h.keys k hk c
  ·intro k hk c
   simp only [Act.put, hval]
   rw [tl _ (by omega)]
   by_cases e : k = j
   ·subst e; rw [if_pos rfl]
   ·rw [gl, if_neg (by omega)] at c
    rw [if_neg (by omega)]; exact h.vals k hk c
  ·intro c
   rw [gl, if_neg (by omega)] at c
   simp only [Act.put, hval]
   rw [tl _ (by omega), if_neg (by omega)]; exact h.last c
  ·intro c
   rw [gl, if_neg (by omega)] at c
   simp only [Act.put, hval]
   rw [tl _ (by omega), if_neg (by omega)]; exact h.res c
 ·have eo : o = hins j := by rw [op_ins hj] at ho; exact (Option.some.inj ho).symm
  subst eo
  have l0 := hall { on := 0, ground := .data } (by simp [hins]) rfl
  have l1 := hall { on := 3 * j + 1, ground := .data } (by simp [hins]) rfl
  have l2 := hall { on := 3 * j + 2, ground := .data } (by simp [hins]) rfl
  dsimp only at l0 l1 l2
  obtain ⟨m1, m2, m3⟩ := h.made l0
  obtain ⟨w', r1, r2, r3⟩ := has_insert m2 m3 (Nat.le_refl _) hj hnot
  refine wpOp_skip (op_ins hj) rfl (run_ins (eval_tmp m1) (eval_tmp (h.keys j hj l1)) (eval_tmp (h.vals j hj l2)) r1) ?_
  refine ⟨by simp [hz], h.tmps, h.defers, ?_, ?_, ?_, ?_, ?_, ?_, ?_⟩
  ·intro c; rw [gl, if_neg (by omega), l0] at c; cases c
  ·intro _
   refine ⟨m1, r2.ext (fun k hk => ?_), r3⟩
   rw [gl]
   by_cases e : k = j
   ·subst e; simp
   ·rw [if_neg e, if_neg (by omega)]
  ·intro k c
   rw [gl, if_neg (by omega)]; exact l0
  ·intro k hk c
   rw [gl, if_neg (by omega)] at c
   exact h.keys k hk c
  ·intro k hk c
   rw [gl, if_neg (by omega)] at c
   exact h.vals k hk c
  ·intro c
   rw [gl, if_neg (by omega)] at c
   exact h.last c
  ·intro c
   rw [gl, if_neg (by omega)] at c
   exact h.res c
 ·have e0 := op_40
  rw [ho] at e0
  simp only [Option.map_some, Option.some.injEq, Prod.mk.injEq] at e0
  obtain ⟨e1, e2, e3⟩ := e0
  have f0 := op_40e
  rw [ho] at f0
  simp only [Option.map_some, Option.some.injEq] at f0
  have l0 := hall _ (Array.mem_of_getElem? f0) rfl
  dsimp only at l0
  refine wpOp_value ho e3 (run_move (.inl e2) (eval_tmp (h.made l0).1)) ?_
  refine ⟨by simp [hz], by simp [Act.put, e1, h.tmps], by simp only [Act.put, e1]; exact h.defers, ?_, ?_, ?_, ?_, ?_, ?_, ?_⟩
  ·intro c; rw [gl, if_neg (by omega)] at c; exact h.start c
  ·intro c
   rw [gl, if_neg (by omega)] at c
   obtain ⟨m1, m2, m3⟩ := h.made c
   refine ⟨?_, m2.ext (fun k hk => by rw [gl, if_neg (by omega)]), m3⟩
   simp only [Act.put, e1]
   rw [tl _ (by omega), if_neg (by omega)]; exact m1
  ·intro k c
   rw [gl] at c
   split at c
   ·omega
   ·rw [gl, if_neg (by omega)]; exact h.first k c
  ·intro k hk c
   rw [gl, if_neg (by omega)] at c
   simp only [Act.put, e1]
   rw [tl _ (by omega), if_neg (by omega)]; exact h.keys k hk c
  ·intro k hk c
   rw [gl, if_neg (by omega)] at c
   simp only [Act.put, e1]
   rw [tl _ (by omega), if_neg (by omega)]; exact h.vals k hk c
  ·intro c
   simp only [Act.put, e1]
   rw [tl _ (by omega), if_pos rfl]
  ·intro c
   rw [gl, if_neg (by omega)] at c
   simp only [Act.put, e1]
   rw [tl _ (by omega), if_neg (by omega)]; exact h.res c
 ·have e0 := op_41
  rw [ho] at e0
  simp only [Option.map_some, Option.some.injEq, Prod.mk.injEq] at e0
  obtain ⟨e1, e2, e3⟩ := e0
  have f0 := op_41e
  rw [ho] at f0
  simp only [Option.map_some, Option.some.injEq] at f0
  have l0 := hall _ (Array.mem_of_getElem? f0) rfl
  dsimp only at l0
  refine wpOp_value ho e3 (run_move (.inr e2) (eval_tmp (h.last l0))) ?_
  refine ⟨by simp [hz], by simp [Act.put, e1, h.tmps], by simp only [Act.put, e1]; exact h.defers, ?_, ?_, ?_, ?_, ?_, ?_, ?_⟩
  ·intro c; rw [gl, if_neg (by omega)] at c; exact h.start c
  ·intro c
   rw [gl, if_neg (by omega)] at c
   obtain ⟨m1, m2, m3⟩ := h.made c
   refine ⟨?_, m2.ext (fun k hk => by rw [gl, if_neg (by omega)]), m3⟩
   simp only [Act.put, e1]
   rw [tl _ (by omega), if_neg (by omega)]; exact m1
  ·intro k c
   rw [gl] at c
   split at c
   ·omega
   ·rw [gl, if_neg (by omega)]; exact h.first k c
  ·intro k hk c
   rw [gl, if_neg (by omega)] at c
   simp only [Act.put, e1]
   rw [tl _ (by omega), if_neg (by omega)]; exact h.keys k hk c
  ·intro k hk c
   rw [gl, if_neg (by omega)] at c
   simp only [Act.put, e1]
   rw [tl _ (by omega), if_neg (by omega)]; exact h.vals k hk c
  ·intro c
   rw [gl, if_neg (by omega)] at c
   simp only [Act.put, e1]
   rw [tl _ (by omega), if_neg (by omega)]; exact h.last c
  ·intro c
   simp only [Act.put, e1]
   rw [tl _ (by omega), if_pos rfl]
theorem holy_end {W0 : World} {listed : Array Bool} {a : Act} {w : World} (h : HInv W0 listed a w) (hr : Region.ready .any (opsIn Tryz.f66.body) listed = []) :
  a.tmps.size = 29 ∧ a.defers = [] ∧ a.tmps[0]? = some (.map (some W0.heap.size)) ∧ MapHas w W0.heap.size (fun _ => true) ∧ Below W0.heap.size W0 w := by
 have hl := all_listed holyEdges (by rw [holyOps_size]; exact h.size) hr
 rw [holyOps_size] at hl
 obtain ⟨m1, m2, m3⟩ := h.made (hl 0 (by omega))
 exact ⟨h.tmps, h.defers, h.res (hl 41 (by omega)), m2.ext (fun j hj => hl _ (by omega)), m3⟩
theorem holy_start (W0 : World) (a : Act) (ht : a.tmps.size = 29) (hd : a.defers = []) : HInv W0 (Array.replicate 42 false) a W0 := by
 have z : ∀ i, (Array.replicate 42 false).getD i false = false := fun i => by
  by_cases c : i < 42
  ·simp [c]
  ·simp [Array.getElem?_eq_none, c]
 refine ⟨by simp, ht, hd, fun _ => rfl, ?_, ?_, ?_, ?_, ?_, ?_⟩
 all_goals
  intros
  rename_i c
  rw [z] at c
  cases c
theorem fholies_any (w : World) : Calls Tryz.prog 66 #[] w fun e w' => e = .returned (.map (some w.heap.size)) ∧ MapHas w' w.heap.size (fun _ => true) ∧ Below w.heap.size w w' := by
 go_enter Tryz.func66, Tryz.ntmps66
 go_wp2_with fail
 refine wp_region_any mixedS2 ?_
 refine wpAny_inv (ops := opsIn Tryz.f66.body) (HInv { w with drawn := w.drawn + 1 }) (fun listed a w' i h hi => holy_step h hi) ?fin _ _ _ _ (by simp) (holy_start _ _ rfl rfl)
 case fin =>
  intro listed a w' h hr
  obtain ⟨z1, z2, z3, z4, z5⟩ := holy_end h hr
  obtain ⟨ts, ds⟩ := a
  simp only at z1 z2 z3
  subst z2
  go_wp2
  exact bodyPost_ret (v := .map (some w.heap.size)) (by simp [results, Tryz.results66, go_sem, Act.eval, Array.getD_eq_getD_getElem?, z3]) rfl ⟨rfl, z4, ((Below.refl w.heap.size w).drew).trans z5⟩
end Go.Proofs.YtfnifgppblbjhaaGreatDoor
