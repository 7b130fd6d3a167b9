/- Part of the proof of TopHoly. -/
import Derived.Test.YtfnifgppblbjhaaGreatDoorY01
import Derived.Deep.DeepCutAuto
import Derived.Deep.RegionHeld3
import Derived.WalkKit
namespace Go.Proofs.YtfnifgppblbjhaaGreatDoor
set_option maxHeartbeats 8000000
open Go.RowKit
set_option linter.unusedVariables false
set_option linter.unusedSimpArgs false
structure Sp where
 a : Int
 b : Int
 m : Int
 p : Int
def inS (s : Sp) (t : Int) : Bool := decide (s.a ≤ t) && decide (t < s.b)
def cov (l : List Sp) (t : Int) : Bool := l.any fun s => inS s t
theorem inS_iff {s : Sp} {t : Int} : inS s t = true ↔ s.a ≤ t ∧ t < s.b := by simp [inS]
theorem cov_iff {l : List Sp} {t : Int} : cov l t = true ↔ ∃ s ∈ l, s.a ≤ t ∧ t < s.b := by simp [cov, inS_iff]
theorem cov_not {l : List Sp} {t : Int} : cov l t = false ↔ ∀ s ∈ l, ¬ (s.a ≤ t ∧ t < s.b) := by
 rw [← Bool.not_eq_true, cov_iff]; simp
theorem cov_app (l k : List Sp) (t : Int) : cov (l ++ k) t = (cov l t || cov k t) := by simp [cov]
def stepR (l out : List Sp) (m x y : Int) : List Sp :=
 if cov l x then
  match out.getLast? with
  | some s => if s.b = x then out.dropLast ++ [⟨s.a, y, m, 0⟩] else out ++ [⟨x, y, m, 0⟩]
  | none => [⟨x, y, m, 0⟩]
 else out
def RInv (l : List Sp) (m : Int) (out : List Sp) (y : Int) : Prop :=
 (∀ s ∈ out, s.m = m ∧ s.p = 0 ∧ s.a < s.b ∧ s.b ≤ y) ∧ ∀ t, t < y → cov out t = cov l t
theorem cov_gap {l : List Sp} {x y t : Int} (hx : x ≤ t) (hy : t < y) (hno : ∀ s ∈ l, ¬ (x < s.a ∧ s.a < y) ∧ ¬ (x < s.b ∧ s.b < y)) : cov l t = cov l x := by
 rw [Bool.eq_iff_iff, cov_iff, cov_iff]
 constructor
 ·rintro ⟨s, hs, h1, h2⟩
  have := hno s hs
  exact ⟨s, hs, by omega, by omega⟩
 ·rintro ⟨s, hs, h1, h2⟩
  have := hno s hs
  exact ⟨s, hs, by omega, by omega⟩
theorem stepR_inv {l out : List Sp} {m x y : Int} (h : RInv l m out x) (hxy : x < y) (hno : ∀ s ∈ l, ¬ (x < s.a ∧ s.a < y) ∧ ¬ (x < s.b ∧ s.b < y)) : RInv l m (stepR l out m x y) y := by
 obtain ⟨h1, h2⟩ := h
 have fin : ∀ out', (∀ s ∈ out', s.m = m ∧ s.p = 0 ∧ s.a < s.b ∧ s.b ≤ y) → (∀ t, cov out' t = (cov out t || (decide (x ≤ t) && decide (t < y)))) → cov l x = true → RInv l m out' y := by
  intro out' g1 g2 hc
  refine ⟨g1, fun t ht => ?_⟩
  rw [g2]
  by_cases c : t < x
  ·rw [h2 t c]; simp; omega
  ·rw [cov_gap (by omega) ht hno, hc]; simp; right; omega
 unfold stepR
 by_cases hc : cov l x = true
 ·rw [if_pos hc]
  have old : ∀ s ∈ out, s.m = m ∧ s.p = 0 ∧ s.a < s.b ∧ s.b ≤ y := fun s hs => by have := h1 s hs; omega
  have app : RInv l m (out ++ [⟨x, y, m, 0⟩]) y := by
   refine fin _ (fun s hs => ?_) (fun t => ?_) hc
   ·rcases List.mem_append.1 hs with hs | hs
    ·exact old s hs
    ·simp at hs; subst hs; exact ⟨rfl, rfl, hxy, Int.le_refl _⟩
   ·rw [cov_app]; congr 1; simp [cov, inS]
  split
  ·rename_i s hs
   obtain ⟨ini, rfl⟩ : ∃ ini, out = ini ++ [s] := by
    obtain ⟨ini, e⟩ := List.getLast?_eq_some_iff.1 hs
    exact ⟨ini, e⟩
   split
   ·rename_i he
    have hs1 := h1 s (by simp)
    refine fin _ (fun u hu => ?_) (fun t => ?_) hc
    ·rw [List.dropLast_concat] at hu
     rcases List.mem_append.1 hu with hu | hu
     ·exact old u (by simp [hu])
     ·simp at hu; subst hu; exact ⟨rfl, rfl, by dsimp only; omega, Int.le_refl _⟩
    ·rw [List.dropLast_concat, cov_app, cov_app, Bool.or_assoc]
     congr 1
     simp only [cov, inS, List.any_cons, List.any_nil, Bool.or_false]
     rw [Bool.eq_iff_iff]
     simp only [Bool.or_eq_true, Bool.and_eq_true, decide_eq_true_eq]
     omega
   ·exact app
  ·rename_i hs
   have : out = [] := by simpa using hs
   subst this
   exact app
 ·rw [if_neg hc]
  have hc : cov l x = false := by simpa using hc
  refine ⟨fun s hs => by have := h1 s hs; omega, fun t ht => ?_⟩
  by_cases c : t < x
  ·exact h2 t c
  ·rw [cov_gap (by omega) ht hno, hc, cov_not]
   intro s hs
   have := h1 s hs
   omega
theorem RInv.all {l out : List Sp} {m y : Int} (h : RInv l m out y) (hl : ∀ s ∈ l, s.b ≤ y) (t : Int) : cov out t = cov l t := by
 by_cases c : t < y
 ·exact h.2 t c
 ·rw [cov_not.2 (fun s hs => by have := h.1 s hs; omega), cov_not.2 (fun s hs => by have := hl s hs; omega)]
theorem RInv.first {l : List Sp} {m y : Int} (hl : ∀ s ∈ l, y ≤ s.a) : RInv l m [] y := by
 refine ⟨fun s hs => (List.not_mem_nil hs).elim, fun t ht => ?_⟩
 exact (cov_not (l := []) (t := t)).2 (fun s hs => (List.not_mem_nil hs).elim) |>.trans (cov_not.2 (fun s hs => by have := hl s hs; omega)).symm
end Go.Proofs.YtfnifgppblbjhaaGreatDoor
namespace Go.Proofs.YtfnifgppblbjhaaGreatDoor
set_option maxHeartbeats 8000000
open Go.RowKit
def leapB (h : Int) : Bool := decide ((7 * (h % 19) + 1) % 19 < 7)
def mon (h : Int) : Int := (235 * h - 234) / 19
def parts (h : Int) : Int := 5604 + 765433 * mon h
def mday (h : Int) : Int := -1373427 + parts h / 25920
def mpart (h : Int) : Int := parts h % 25920
def putB (h : Int) : Bool := decide (19440 ≤ mpart h) || (decide (mday h % 7 = 2) && decide (9924 ≤ mpart h) && !leapB h) || (decide (mday h % 7 = 1) && decide (16789 ≤ mpart h) && leapB (h - 1))
def put1 (h : Int) : Int := if putB h = true then 1 else 0
def offB (w : Int) : Bool := decide (w = 0) || decide (w = 3) || decide (w = 5)
def dly (h : Int) : Int := if offB ((mday h + put1 h) % 7) = true then put1 h + 1 else put1 h
def ny (h : Int) : Int := mday h + dly h
def ylen (h : Int) : Int := ny (h + 1) - ny h
theorem mon_bd (h : Int) (h1 : 3000 ≤ h) (h2 : h ≤ 10100) : 0 ≤ mon h ∧ mon h ≤ 130000 := by unfold mon; omega
theorem parts_bd (h : Int) (h1 : 3000 ≤ h) (h2 : h ≤ 10100) : 0 ≤ parts h ∧ parts h ≤ 100000000000 := by
 have := mon_bd h h1 h2
 unfold parts; omega
theorem mday_bd (h : Int) (h1 : 3000 ≤ h) (h2 : h ≤ 10100) : -1373427 ≤ mday h ∧ mday h ≤ 3000000 := by
 have := parts_bd h h1 h2
 unfold mday; omega
theorem mpart_bd (h : Int) : 0 ≤ mpart h ∧ mpart h < 25920 := by unfold mpart; omega
theorem put_bd (h : Int) : 0 ≤ put1 h ∧ put1 h ≤ 1 := by unfold put1; split <;> omega
theorem dly_bd (h : Int) : 0 ≤ dly h ∧ dly h ≤ 2 := by
 have := put_bd h
 unfold dly; split <;> omega
theorem ny_bd (h : Int) (h1 : 3000 ≤ h) (h2 : h ≤ 10100) : -1373427 ≤ ny h ∧ ny h ≤ 3000002 := by
 have := mday_bd h h1 h2
 have := dly_bd h
 unfold ny; omega
def allB (f : Nat → Bool) : Nat → Nat → Bool
 | 0, lo => f lo
 | d + 1, lo => allB f d lo && allB f d (lo + 2 ^ d)
theorem allB_at {f : Nat → Bool} : ∀ (d lo : Nat), allB f d lo = true → ∀ i, lo ≤ i → i < lo + 2 ^ d → f i = true := by
 intro d
 induction d with
 | zero => intro lo h i h1 h2; have : i = lo := (by omega); subst this; exact h
 | succ d ih =>
  intro lo h i h1 h2
  simp only [allB, Bool.and_eq_true] at h
  have e : 2 ^ (d + 1) = 2 ^ d + 2 ^ d := by rw [Nat.pow_succ]; omega
  by_cases c : i < lo + 2 ^ d
  ·exact ih lo h.1 i h1 c
  ·exact ih _ h.2 i (by omega) (by omega)
def lenOk (i : Nat) : Bool := let l := ylen (i : Int); if leapB (i : Int) then l == 383 || l == 384 || l == 385 else l == 353 || l == 354 || l == 355
theorem lens_all : allB lenOk 13 3000 = true := by decide +kernel
theorem len_cases (h : Int) (h1 : 3000 ≤ h) (h2 : h ≤ 10100) : (leapB h = true ∧ (ylen h = 383 ∨ ylen h = 384 ∨ ylen h = 385)) ∨ (leapB h = false ∧ (ylen h = 353 ∨ ylen h = 354 ∨ ylen h = 355)) := by
 have := allB_at 13 3000 lens_all h.toNat (by omega) (by omega)
 have e : ((h.toNat : Nat) : Int) = h := by omega
 unfold lenOk at this
 rw [e] at this
 cases hl : leapB h with
 | true => rw [hl] at this; left; refine ⟨rfl, ?_⟩; simpa [or_assoc] using this
 | false => rw [hl] at this; right; refine ⟨rfl, ?_⟩; simpa [or_assoc] using this
end Go.Proofs.YtfnifgppblbjhaaGreatDoor
namespace Go.Proofs.YtfnifgppblbjhaaGreatDoor
set_option maxHeartbeats 8000000
open Go.RowKit
set_option linter.unusedVariables false
theorem leap_any (h : Int) (w : World) (hh : I64 h) :
  Calls Tryz.prog 123 #[.int .i64 h] w fun e w' => e = .returned (.bool (leapB h)) ∧ w = w' := by
 have m := emod_bd h 19 (by omega)
 go_enter Tryz.func123, Tryz.ntmps123
 go_wp2_with fail
 refine (mod_ok _ _ _ (by omega) hh (by omega)).mono ?_; rintro e w' ⟨rfl, rfl⟩
 go_wp2
 go_ret
 exact ⟨by unfold leapB; rfl, rfl⟩
def Yr (h : Int) : Prop := 3762 ≤ h ∧ h ≤ 9999
theorem ymonths_any (h : Int) (w : World) (h1 : 3000 ≤ h) (h2 : h ≤ 10100) :
  Calls Tryz.prog 231 #[.int .i64 h] w fun e w' => e = .returned (.int .i64 (mon h)) ∧ w = w' := by
 go_enter Tryz.func231, Tryz.ntmps231
 go_wp2
 go_ret
 exact ⟨by unfold mon; rfl, rfl⟩
theorem ymoon_any (h : Int) (w : World) (h1 : 3000 ≤ h) (h2 : h ≤ 10100) :
  Calls Tryz.prog 187 #[.int .i64 h] w fun e w' => e = .returned (.tuple #[.int .i64 (mday h), .int .i64 (mpart h)]) ∧ w = w' := by
 have b := mon_bd h h1 h2
 go_enter Tryz.func187, Tryz.ntmps187
 go_wp2_with fail
 refine (ymonths_any _ _ h1 h2).mono ?_; rintro e w' ⟨rfl, rfl⟩
 go_wp2
 go_ret2
 exact ⟨two (by unfold mday parts; rfl) (by unfold mpart parts; rfl), rfl⟩
theorem reckoned_no (h : Int) (v : Value) (w : World) (hy : ¬ Yr h) :
  Calls Tryz.prog 119 #[.int .i64 h, v] w fun e w' => e = .returned (.tuple #[.int .i64 0, .int .i64 30]) ∧ w = w' := by
 unfold Yr at hy
 by_cases h1 : h < 3762
 ·clear hy
  go_enter Tryz.func119, Tryz.ntmps119
  go_wp2_with fail
  go_ret2
  exact ⟨rfl, rfl⟩
 ·have h2 : 9999 < h := by omega
  clear hy
  go_enter Tryz.func119, Tryz.ntmps119
  go_wp2_with fail
  go_ret2
  exact ⟨rfl, rfl⟩
theorem reckoned_ok (k : FuncId) (h r : Int) (w : World) (hk : ∀ args w, (callFunc k args).run Tryz.prog w = .ok (.enter k args) w) (hy : Yr h) (hc : Calls Tryz.prog k #[.int .i64 h] w fun e w' => e = .returned (.int .i64 r) ∧ w = w') :
  Calls Tryz.prog 119 #[.int .i64 h, .func (.func k) #[.int .i64 h] #[]] w fun e w' => e = .returned (.tuple #[.int .i64 r, .int .i64 0]) ∧ w = w' := by
 obtain ⟨h1, h2⟩ := hy
 have H := Lib.hid hc
 clear hc
 go_enter Tryz.func119, Tryz.ntmps119
 go_wp2_with fail
 refine H.out.mono ?_; rintro e w' ⟨rfl, rfl⟩
 go_wp2
 go_ret2
 exact ⟨rfl, rfl⟩
end Go.Proofs.YtfnifgppblbjhaaGreatDoor
namespace Go.Proofs.YtfnifgppblbjhaaGreatDoor
set_option maxHeartbeats 8000000
open Go.RowKit
set_option linter.unusedVariables false
set_option linter.unusedSimpArgs false
theorem ydelay_any (h : Int) (w : World) (h1 : 3001 ≤ h) (h2 : h ≤ 10100) :
  Calls Tryz.prog 188 #[.int .i64 h] w fun e w' => e = .returned (.int .i64 (dly h)) ∧ w = w' := by
 have b := mday_bd h (by omega) h2
 have c := mpart_bd h
 have hI : I64 (mday h) := ⟨by omega, by omega⟩
 go_enter Tryz.func188, Tryz.ntmps188
 go_wp2_with fail
 refine (ymoon_any _ _ (by omega) (by omega)).mono ?_; rintro e w' ⟨rfl, rfl⟩
 go_wp2_with fail
 refine (weekday_any _ _ hI).mono ?_; rintro e w' ⟨rfl, rfl⟩
 go_wp2_with (go_at_call 123; refine (leap_any _ _ (by unfold I64; omega)).mono ?_; rintro e w' ⟨rfl, rfl⟩)
 all_goals
  go_ret
  refine ⟨one ?_, rfl⟩
  unfold dly put1 putB offB
  generalize leapB h = l1 at *
  generalize leapB (h - 1) = l2 at *
  generalize mday h = d at *
  generalize mpart h = p at *
  clear hI
  cases l1 <;> cases l2
  all_goals
   simp only [Bool.or_eq_true, Bool.and_eq_true, Bool.not_eq_true', Bool.not_eq_false', decide_eq_true_eq, decide_eq_false_iff_not, beq_iff_eq, beq_eq_false_iff_ne, Bool.not_true, Bool.not_false, Bool.false_eq_true, and_true, and_false, or_false, or_true, false_or, true_and, false_and, not_true_eq_false, not_false_eq_true, not_or, reduceCtorEq, ne_eq] at *
   repeat' split
   all_goals omega
theorem yfirst_any (h : Int) (w : World) (h1 : 3001 ≤ h) (h2 : h ≤ 10100) :
  Calls Tryz.prog 120 #[.int .i64 h] w fun e w' => e = .returned (.int .i64 (ny h)) ∧ w = w' := by
 have b := mday_bd h (by omega) h2
 have c := dly_bd h
 go_enter Tryz.func120, Tryz.ntmps120
 go_wp2_with fail
 refine (ymoon_any _ _ (by omega) (by omega)).mono ?_; rintro e w' ⟨rfl, rfl⟩
 go_wp2_with fail
 refine (ydelay_any _ _ (by omega) (by omega)).mono ?_; rintro e w' ⟨rfl, rfl⟩
 go_wp2
 go_ret
 exact ⟨by unfold ny; rfl, rfl⟩
theorem ylength_any (h : Int) (w : World) (h1 : 3001 ≤ h) (h2 : h ≤ 10000) :
  Calls Tryz.prog 121 #[.int .i64 h] w fun e w' => e = .returned (.int .i64 (ylen h)) ∧ w = w' := by
 have b := ny_bd h (by omega) (by omega)
 have c := ny_bd (h + 1) (by omega) (by omega)
 go_enter Tryz.func121, Tryz.ntmps121
 go_wp2_with fail
 refine (yfirst_any _ _ (by omega) (by omega)).mono ?_; rintro e w' ⟨rfl, rfl⟩
 go_wp2_with fail
 refine (yfirst_any _ _ (by omega) (by omega)).mono ?_; rintro e w' ⟨rfl, rfl⟩
 go_wp2
 go_ret
 exact ⟨by unfold ylen; rfl, rfl⟩
theorem newyear_ok (h : Int) (w : World) (hy : Yr h) :
  Calls Tryz.prog 61 #[.int .i64 h] w fun e w' => e = .returned (.tuple #[.int .i64 (ny h), .int .i64 0]) ∧ w = w' := by
 go_enter Tryz.func61, Tryz.ntmps61
 go_wp2_with fail
 refine (reckoned_ok _ _ _ _ (fun _ _ => by kernel_rfl) hy (yfirst_any _ _ (by have := hy.1; omega) (by have := hy.2; omega))).mono ?_; rintro e w' ⟨rfl, rfl⟩
 go_wp2
 go_ret2
 exact ⟨rfl, rfl⟩
theorem len_no (h : Int) (w : World) (hy : ¬ Yr h) :
  Calls Tryz.prog 62 #[.int .i64 h] w fun e w' => e = .returned (.tuple #[.int .i64 0, .int .i64 30]) ∧ w = w' := by
 go_enter Tryz.func62, Tryz.ntmps62
 go_wp2_with fail
 refine (reckoned_no _ _ _ hy).mono ?_; rintro e w' ⟨rfl, rfl⟩
 go_wp2
 go_ret2
 exact ⟨rfl, rfl⟩
theorem len_ok (h : Int) (w : World) (hy : Yr h) :
  Calls Tryz.prog 62 #[.int .i64 h] w fun e w' => e = .returned (.tuple #[.int .i64 (ylen h), .int .i64 0]) ∧ w = w' := by
 go_enter Tryz.func62, Tryz.ntmps62
 go_wp2_with fail
 refine (reckoned_ok _ _ _ _ (fun _ _ => by kernel_rfl) hy (ylength_any _ _ (by have := hy.1; omega) (by have := hy.2; omega))).mono ?_; rintro e w' ⟨rfl, rfl⟩
 go_wp2
 go_ret2
 exact ⟨rfl, rfl⟩
def lpB (y : Int) : Bool := (decide (y % 4 = 0) && !decide (y % 100 = 0)) || decide (y % 400 = 0)
def lp (y : Int) : Int := if lpB y = true then 1 else 0
def len12 (m : Int) : Int := if m = 2 then 28 else if m = 4 ∨ m = 6 ∨ m = 9 ∨ m = 11 then 30 else 31
def OkM (y m : Int) : Prop := 1 ≤ y ∧ y ≤ 9999 ∧ 1 ≤ m ∧ m ≤ 12
instance (y m : Int) : Decidable (OkM y m) := by unfold OkM; infer_instance
def dim (y m : Int) : Int := if OkM y m then (if m = 2 then 28 + lp y else len12 m) else 0
def bef (y : Int) : Int := 365 * (y - 1) + (y - 1) / 4 - (y - 1) / 100 + (y - 1) / 400
def cum0 (m : Int) : Int := if m = 2 then 31 else if m = 3 then 59 else if m = 4 then 90 else if m = 5 then 120 else if m = 6 then 151 else if m = 7 then 181 else if m = 8 then 212 else if m = 9 then 243 else if m = 10 then 273 else if m = 11 then 304 else if m = 12 then 334 else if m = 13 then 365 else 0
def cum (y m : Int) : Int := if 3 ≤ m then cum0 m + lp y else cum0 m
def num (y m d : Int) : Int := bef y + cum y m + d
def May (y m d : Int) : Prop := 1 ≤ d ∧ d ≤ dim y m
theorem lp_01 (y : Int) : 0 ≤ lp y ∧ lp y ≤ 1 := by unfold lp; split <;> omega
theorem lp_of (y : Int) : (lp y = 1 ∧ ((y % 4 = 0 ∧ y % 100 ≠ 0) ∨ y % 400 = 0)) ∨ (lp y = 0 ∧ ¬((y % 4 = 0 ∧ y % 100 ≠ 0) ∨ y % 400 = 0)) := by
 unfold lp lpB
 by_cases h : (y % 4 = 0 ∧ y % 100 ≠ 0) ∨ y % 400 = 0
 ·left; rw [if_pos (by simpa using h)]; exact ⟨rfl, h⟩
 ·right; rw [if_neg (by simpa using h)]; exact ⟨rfl, h⟩
theorem parts_of (p : Int) : ∃ q c k o : Int, p = 400 * q + 100 * c + 4 * k + o ∧ 0 ≤ c ∧ c ≤ 3 ∧ 0 ≤ k ∧ k ≤ 24 ∧ 0 ≤ o ∧ o ≤ 3 :=
 ⟨p / 400, p % 400 / 100, p % 100 / 4, p % 4, by omega, by omega, by omega, by omega, by omega, by omega, by omega⟩
theorem bef_parts {q c k o : Int} (hc : 0 ≤ c) (hc' : c ≤ 3) (hk : 0 ≤ k) (hk' : k ≤ 24) (ho : 0 ≤ o) (ho' : o ≤ 3) :
  bef (400 * q + 100 * c + 4 * k + o + 1) = 146097 * q + 36524 * c + 1461 * k + 365 * o := by
 unfold bef
 have e1 : (400 * q + 100 * c + 4 * k + o + 1 - 1) / 4 = 100 * q + 25 * c + k := by omega
 have e2 : (400 * q + 100 * c + 4 * k + o + 1 - 1) / 100 = 4 * q + c := by omega
 have e3 : (400 * q + 100 * c + 4 * k + o + 1 - 1) / 400 = q := by omega
 rw [e1, e2, e3]; omega
theorem lp_parts {q c k o : Int} (hc : 0 ≤ c) (hc' : c ≤ 3) (hk : 0 ≤ k) (hk' : k ≤ 24) (ho : 0 ≤ o) (ho' : o ≤ 3) :
  lp (400 * q + 100 * c + 4 * k + o + 1) = if o = 3 ∧ (k ≠ 24 ∨ c = 3) then 1 else 0 := by
 have h := lp_of (400 * q + 100 * c + 4 * k + o + 1)
 split
 ·omega
 ·omega
theorem bef_succ (y : Int) : bef (y + 1) = bef y + 365 + lp y := by
 obtain ⟨q, c, k, o, e, hc, hc', hk, hk', ho, ho'⟩ := parts_of (y - 1)
 have ey : y = 400 * q + 100 * c + 4 * k + o + 1 := by omega
 rw [ey, bef_parts hc hc' hk hk' ho ho', lp_parts hc hc' hk hk' ho ho']
 by_cases h3 : o = 3
 ·by_cases h24 : k = 24
  ·by_cases hc3 : c = 3
   ·subst h3 h24 hc3
    have := bef_parts (q := q + 1) (c := 0) (k := 0) (o := 0) (by omega) (by omega) (by omega) (by omega) (by omega) (by omega)
    rw [show 400 * q + 100 * 3 + 4 * 24 + 3 + 1 + 1 = 400 * (q + 1) + 100 * 0 + 4 * 0 + 0 + 1 from by omega, this]; simp; omega
   ·subst h3 h24
    have := bef_parts (q := q) (c := c + 1) (k := 0) (o := 0) (by omega) (by omega) (by omega) (by omega) (by omega) (by omega)
    rw [show 400 * q + 100 * c + 4 * 24 + 3 + 1 + 1 = 400 * q + 100 * (c + 1) + 4 * 0 + 0 + 1 from by omega, this]; rw [if_neg (by omega)]; omega
  ·subst h3
   have := bef_parts (q := q) (c := c) (k := k + 1) (o := 0) (by omega) (by omega) (by omega) (by omega) (by omega) (by omega)
   rw [show 400 * q + 100 * c + 4 * k + 3 + 1 + 1 = 400 * q + 100 * c + 4 * (k + 1) + 0 + 1 from by omega, this]; rw [if_pos (by omega)]; omega
 ·have := bef_parts (q := q) (c := c) (k := k) (o := o + 1) (by omega) (by omega) (by omega) (by omega) (by omega) (by omega)
  rw [show 400 * q + 100 * c + 4 * k + o + 1 + 1 = 400 * q + 100 * c + 4 * k + (o + 1) + 1 from by omega, this, if_neg (by omega)]; omega
theorem bef_bd (y : Int) (h1 : 0 ≤ y) (h2 : y ≤ 10000) : -366 ≤ bef y ∧ bef y ≤ 3652059 := by unfold bef; omega
theorem bef_le {a b : Int} (h : a ≤ b) : bef a ≤ bef b := by
 obtain ⟨n, hn⟩ : ∃ n : Nat, b = a + n := ⟨(b - a).toNat, by omega⟩
 subst hn
 clear h
 induction n with
 | zero => simp
 | succ n ih =>
  have := bef_succ (a + n)
  have l := lp_01 (a + n)
  rw [show a + ((n + 1 : Nat) : Int) = a + n + 1 from by omega]
  omega
theorem len12_bd (m : Int) : 28 ≤ len12 m ∧ len12 m ≤ 31 := by
 unfold len12
 repeat' split
 all_goals omega
theorem dim_bd (y m : Int) : 0 ≤ dim y m ∧ dim y m ≤ 31 := by
 have := lp_01 y; have := len12_bd m
 unfold dim; repeat' split
 all_goals omega
theorem dim_ok {y m : Int} (h : OkM y m) : 28 ≤ dim y m := by
 have := lp_01 y; have := len12_bd m
 unfold dim; rw [if_pos h]; split <;> omega
theorem dim_no {y m : Int} (h : ¬ OkM y m) : dim y m = 0 := by unfold dim; rw [if_neg h]
theorem okM_of {y m d : Int} (h : May y m d) : OkM y m := by
 by_cases c : OkM y m
 ·exact c
 ·have := dim_no c; unfold May at h; omega
theorem months12 {m : Int} (h1 : 1 ≤ m) (h2 : m ≤ 12) : m = 1 ∨ m = 2 ∨ m = 3 ∨ m = 4 ∨ m = 5 ∨ m = 6 ∨ m = 7 ∨ m = 8 ∨ m = 9 ∨ m = 10 ∨ m = 11 ∨ m = 12 := by omega
theorem cum_succ {y m : Int} (h : OkM y m) : cum y (m + 1) = cum y m + dim y m := by
 unfold dim; rw [if_pos h]
 obtain ⟨_, _, h1, h2⟩ := h
 unfold cum cum0 len12
 rcases months12 h1 h2 with e | e | e | e | e | e | e | e | e | e | e | e <;> subst e <;> simp <;> omega
theorem cum_one (y : Int) : cum y 1 = 0 := by unfold cum cum0; simp
theorem cum_13 (y : Int) : cum y 13 = 365 + lp y := by unfold cum cum0; simp
theorem cum_bd (y : Int) {m : Int} (h1 : 1 ≤ m) (h2 : m ≤ 13) : 0 ≤ cum y m ∧ cum y m ≤ 366 := by
 have := lp_01 y
 unfold cum cum0
 repeat' split
 all_goals omega
theorem cum_le {y a b : Int} (hy : 1 ≤ y ∧ y ≤ 9999) (h1 : 1 ≤ a) (h : a ≤ b) (h2 : b ≤ 13) : cum y a ≤ cum y b := by
 obtain ⟨n, hn⟩ : ∃ n : Nat, b = a + n := ⟨(b - a).toNat, by omega⟩
 subst hn
 clear h
 induction n with
 | zero => simp
 | succ n ih =>
  have := cum_succ (y := y) (m := a + n) ⟨hy.1, hy.2, by omega, by omega⟩
  have l := dim_bd y (a + n)
  have := ih (by omega)
  rw [show a + ((n + 1 : Nat) : Int) = a + n + 1 from by omega]
  omega
theorem may_in {y m d : Int} (h : May y m d) : 1 ≤ y ∧ y ≤ 9999 ∧ 1 ≤ m ∧ m ≤ 12 ∧ bef y < num y m d ∧ num y m d ≤ bef (y + 1) ∧ cum y m < num y m d - bef y ∧ num y m d - bef y ≤ cum y (m + 1) := by
 have k := okM_of h
 have k' := k
 obtain ⟨a, b, c, e⟩ := k'
 have s := bef_succ y
 have t := cum_succ k
 have u := cum_bd y c (by omega)
 have v := cum_le (y := y) (a := m + 1) (b := 13) ⟨a, b⟩ (by omega) (by omega) (by omega)
 rw [cum_13] at v
 unfold May at h
 unfold num
 refine ⟨a, b, c, e, ?_, ?_, ?_, ?_⟩ <;> omega
theorem num_bd {y m d : Int} (h : May y m d) : 1 ≤ num y m d ∧ num y m d ≤ 3652059 := by
 obtain ⟨a1, a2, a3, a4, a5, a6, _⟩ := may_in h
 have := bef_le (a := 1) (b := y) (by omega)
 have := bef_le (a := y + 1) (b := 10000) (by omega)
 have e1 : bef 1 = 0 := by decide
 have e2 : bef 10000 = 3652059 := by decide
 omega
def lf1 (n : Int) : Int := (n - 1) % 146097
def ce (n : Int) : Int := if lf1 n / 36524 ≤ 3 then lf1 n / 36524 else 3
def lf2 (n : Int) : Int := lf1 n - ce n * 36524
def lf3 (n : Int) : Int := lf2 n % 1461
def oe (n : Int) : Int := if lf3 n / 365 ≤ 3 then lf3 n / 365 else 3
def yOf (n : Int) : Int := 1 + 400 * ((n - 1) / 146097) + (100 * ce n + 4 * (lf2 n / 1461)) + oe n
def rOf (n : Int) : Int := lf3 n - oe n * 365
theorem yr_of {n : Int} (h1 : 1 ≤ n) (h2 : n ≤ 3652059) : 1 ≤ yOf n ∧ yOf n ≤ 9999 ∧ bef (yOf n) + rOf n = n - 1 ∧ 0 ≤ rOf n ∧ rOf n < 365 + lp (yOf n) := by
 have a1 : 0 ≤ lf1 n ∧ lf1 n < 146097 ∧ n - 1 = 146097 * ((n - 1) / 146097) + lf1 n ∧ 0 ≤ (n - 1) / 146097 ∧ (n - 1) / 146097 ≤ 24 := by unfold lf1; omega
 generalize hq : (n - 1) / 146097 = q at *
 have a2 : 0 ≤ ce n ∧ ce n ≤ 3 ∧ 0 ≤ lf2 n ∧ lf1 n = 36524 * ce n + lf2 n ∧ (ce n < 3 → lf2 n < 36524) ∧ lf2 n ≤ 36524 := by
  unfold lf2 ce; split <;> omega
 have a3 : 0 ≤ lf2 n / 1461 ∧ lf2 n / 1461 ≤ 24 ∧ lf2 n = 1461 * (lf2 n / 1461) + lf3 n ∧ 0 ≤ lf3 n ∧ lf3 n < 1461 := by unfold lf3; omega
 generalize hk : lf2 n / 1461 = k at *
 have a4 : 0 ≤ oe n ∧ oe n ≤ 3 ∧ lf3 n = 365 * oe n + rOf n ∧ 0 ≤ rOf n ∧ (oe n < 3 → rOf n < 365) ∧ rOf n ≤ 365 := by
  unfold rOf oe; split <;> omega
 have ey : yOf n = 400 * q + 100 * ce n + 4 * k + oe n + 1 := by unfold yOf; rw [hq, hk]; omega
 have eb := bef_parts (q := q) a2.1 a2.2.1 a3.1 a3.2.1 a4.1 a4.2.1
 have el := lp_parts (q := q) a2.1 a2.2.1 a3.1 a3.2.1 a4.1 a4.2.1
 rw [← ey] at eb el
 refine ⟨by omega, ?_, by omega, by omega, ?_⟩
 ·have : q ≤ 24 := a1.2.2.2.2
  by_cases c : q = 24
  ·subst c; omega
  ·omega
 ·rw [el]
  split
  ·omega
  ·omega
def mFrom (y r : Int) : Int := if r < cum y 2 then 1 else if r < cum y 3 then 2 else if r < cum y 4 then 3 else if r < cum y 5 then 4 else if r < cum y 6 then 5 else if r < cum y 7 then 6 else if r < cum y 8 then 7 else if r < cum y 9 then 8 else if r < cum y 10 then 9 else if r < cum y 11 then 10 else if r < cum y 12 then 11 else 12
def mOf (n : Int) : Int := mFrom (yOf n) (rOf n)
def dOf (n : Int) : Int := rOf n - cum (yOf n) (mOf n) + 1
theorem mFrom_of {y r : Int} (h0 : 0 ≤ r) (h1 : r < 365 + lp y) : 1 ≤ mFrom y r ∧ mFrom y r ≤ 12 ∧ cum y (mFrom y r) ≤ r ∧ r < cum y (mFrom y r + 1) := by
 have e1 := cum_one y
 have e13 := cum_13 y
 unfold mFrom
 repeat' split
 all_goals
  refine ⟨by omega, by omega, ?_, ?_⟩
  ·first | omega | (simp only [cum_one]; omega)
  ·first | omega | (simp; omega)
theorem of_may {n : Int} (h1 : 1 ≤ n) (h2 : n ≤ 3652059) : May (yOf n) (mOf n) (dOf n) ∧ num (yOf n) (mOf n) (dOf n) = n := by
 obtain ⟨a, b, c, d, e⟩ := yr_of h1 h2
 obtain ⟨f, g, i, j⟩ := mFrom_of d e
 have k : OkM (yOf n) (mOf n) := ⟨a, b, f, g⟩
 have s := cum_succ k
 have hm : mFrom (yOf n) (rOf n) = mOf n := rfl
 rw [hm] at i j
 refine ⟨⟨?_, ?_⟩, ?_⟩
 ·unfold dOf; omega
 ·unfold dOf; omega
 ·unfold num dOf; omega
theorem of_way1 (n : Int) (hA : 3 < (n - 1) % 146097 / 36524) : 1 + 400 * ((n - 1) / 146097) + (300 + 4 * (((n - 1) % 146097 - 109572) / 1461)) + 3 = yOf n ∧ ((n - 1) % 146097 - 109572) % 1461 - 1095 = rOf n := by
 have hc : ce n = 3 := by unfold ce lf1; rw [if_neg (by omega)]
 have e2 : lf2 n = (n - 1) % 146097 - 109572 := by unfold lf2 lf1; rw [hc]; omega
 have e3 : lf3 n = ((n - 1) % 146097 - 109572) % 1461 := by unfold lf3; rw [e2]
 have ho : oe n = 3 := by unfold oe; rw [e3, if_neg (by omega)]
 constructor
 ·unfold yOf; rw [hc, e2, ho]; omega
 ·unfold rOf; rw [e3, ho]; omega
theorem of_way2 (n : Int) (hA : (n - 1) % 146097 / 36524 ≤ 3) (hB : 3 < ((n - 1) % 146097 - (n - 1) % 146097 / 36524 * 36524) % 1461 / 365) :
  1 + 400 * ((n - 1) / 146097) + (100 * ((n - 1) % 146097 / 36524) + 4 * (((n - 1) % 146097 - (n - 1) % 146097 / 36524 * 36524) / 1461)) + 3 = yOf n ∧ ((n - 1) % 146097 - (n - 1) % 146097 / 36524 * 36524) % 1461 - 1095 = rOf n := by
 have hc : ce n = (n - 1) % 146097 / 36524 := by unfold ce lf1; rw [if_pos hA]
 have e2 : lf2 n = (n - 1) % 146097 - (n - 1) % 146097 / 36524 * 36524 := by unfold lf2 lf1; rw [hc]
 have e3 : lf3 n = ((n - 1) % 146097 - (n - 1) % 146097 / 36524 * 36524) % 1461 := by unfold lf3; rw [e2]
 have ho : oe n = 3 := by unfold oe; rw [e3, if_neg (by omega)]
 constructor
 ·unfold yOf; rw [hc, e2, ho]
 ·unfold rOf; rw [e3, ho]; omega
theorem of_way3 (n : Int) (hA : (n - 1) % 146097 / 36524 ≤ 3) (hB : ((n - 1) % 146097 - (n - 1) % 146097 / 36524 * 36524) % 1461 / 365 ≤ 3) :
  1 + 400 * ((n - 1) / 146097) + (100 * ((n - 1) % 146097 / 36524) + 4 * (((n - 1) % 146097 - (n - 1) % 146097 / 36524 * 36524) / 1461)) + ((n - 1) % 146097 - (n - 1) % 146097 / 36524 * 36524) % 1461 / 365 = yOf n ∧
  ((n - 1) % 146097 - (n - 1) % 146097 / 36524 * 36524) % 1461 - ((n - 1) % 146097 - (n - 1) % 146097 / 36524 * 36524) % 1461 / 365 * 365 = rOf n := by
 have hc : ce n = (n - 1) % 146097 / 36524 := by unfold ce lf1; rw [if_pos hA]
 have e2 : lf2 n = (n - 1) % 146097 - (n - 1) % 146097 / 36524 * 36524 := by unfold lf2 lf1; rw [hc]
 have e3 : lf3 n = ((n - 1) % 146097 - (n - 1) % 146097 / 36524 * 36524) % 1461 := by unfold lf3; rw [e2]
 have ho : oe n = ((n - 1) % 146097 - (n - 1) % 146097 / 36524 * 36524) % 1461 / 365 := by unfold oe; rw [e3, if_pos hB]
 constructor
 ·unfold yOf; rw [hc, e2, ho]
 ·unfold rOf; rw [e3, ho]
theorem boolEnd {a b : Bool} (h : a = true ↔ b = true) : Ending.returned (.bool a) = Ending.returned (.bool b) := by rw [Bool.eq_iff_iff.2 h]
theorem gleap_any (y : Int) (w : World) : Calls Tryz.prog 265 #[.int .i64 y] w fun e w' => e = .returned (.bool (lpB y)) ∧ w = w' := by
 have z4 := Lib.hid (tmod_zero y 4 (by omega))
 have z100 := Lib.hid (tmod_zero y 100 (by omega))
 have z400 := Lib.hid (tmod_zero y 400 (by omega))
 go_enter Tryz.func265, Tryz.ntmps265
 go_wp2
 all_goals
  go_ret
  refine ⟨boolEnd ?_, rfl⟩
  have z4 := z4.out
  have z100 := z100.out
  have z400 := z400.out
  unfold lpB
  simp [*]
  first | omega | (intros; omega)
theorem tab_at {w : World} (h : Tab w) {m : Int} (h1 : 1 ≤ m) (h2 : m ≤ 12) : w.cell? ⟨2, m.toNat - 1, none⟩ = some (.int .i64 (len12 m)) := by
 have := h.cell (m.toNat - 1) (by omega)
 rw [this]
 rcases months12 h1 h2 with e | e | e | e | e | e | e | e | e | e | e | e <;> subst e <;> rfl
theorem gdays_no (y m : Int) (w : World) (h : ¬ OkM y m) : Calls Tryz.prog 252 #[.int .i64 y, .int .i64 m] w fun e w' => e = .returned (.int .i64 0) ∧ w = w' := by
 unfold OkM at h
 by_cases h1 : y < 1
 ·clear h
  go_enter Tryz.func252, Tryz.ntmps252
  go_wp2
  go_ret
  exact ⟨rfl, rfl⟩
 by_cases h2 : 9999 < y
 ·have h1 : 1 ≤ y := by omega
  clear h
  go_enter Tryz.func252, Tryz.ntmps252
  go_wp2
  go_ret
  exact ⟨rfl, rfl⟩
 by_cases h3 : m < 1
 ·have h1 : 1 ≤ y := by omega
  have h2 : y ≤ 9999 := by omega
  clear h
  go_enter Tryz.func252, Tryz.ntmps252
  go_wp2
  go_ret
  exact ⟨rfl, rfl⟩
 ·have h1 : 1 ≤ y := by omega
  have h2 : y ≤ 9999 := by omega
  have h3 : 1 ≤ m := by omega
  have h4 : 12 < m := by omega
  clear h
  go_enter Tryz.func252, Tryz.ntmps252
  go_wp2
  go_ret
  exact ⟨rfl, rfl⟩
theorem gdays_ok (y m : Int) (w : World) (ht : Tab w) (h : OkM y m) : Calls Tryz.prog 252 #[.int .i64 y, .int .i64 m] w fun e w' => e = .returned (.int .i64 (dim y m)) ∧ w = w' := by
 have hd : dim y m = if m = 2 then 28 + lp y else len12 m := by unfold dim; rw [if_pos h]
 obtain ⟨h1, h2, h3, h4⟩ := h
 by_cases c : m = 2
 ·rw [if_pos c] at hd
  have c1 : w.cell? ⟨2, 1, none⟩ = some (.int .i64 28) := ht.cell 1 (by omega)
  by_cases hl : lpB y = true
  ·have e : dim y m = 29 := by rw [hd]; unfold lp; rw [if_pos hl]; rfl
   have H := Lib.hid e
   have Hl := Lib.hid hl
   subst c
   clear hd e hl
   go_enter Tryz.func252, Tryz.ntmps252
   go_wp2_with fail
   refine (gleap_any _ _).mono ?_; rintro e w' ⟨rfl, rfl⟩
   rw [Hl.out]
   go_wp2
   go_ret
   exact ⟨one H.out.symm, rfl⟩
  ·have e : dim y m = 28 := by rw [hd]; unfold lp; rw [if_neg hl]; rfl
   have H := Lib.hid e
   have Hl := Lib.hid (show lpB y = false by simpa using hl)
   subst c
   clear hd e hl
   go_enter Tryz.func252, Tryz.ntmps252
   go_wp2_with fail
   refine (gleap_any _ _).mono ?_; rintro e w' ⟨rfl, rfl⟩
   rw [Hl.out]
   go_wp2
   go_ret
   exact ⟨one H.out.symm, rfl⟩
 ·rw [if_neg c] at hd
  have H := Lib.hid hd
  have cm := tab_at ht h3 h4
  have b1 : (m == 2) = false := beq_eq_false_iff_ne.2 c
  clear hd c
  go_enter Tryz.func252, Tryz.ntmps252
  go_wp2
  go_ret
  exact ⟨one H.out.symm, rfl⟩
theorem gdays_any (y m : Int) (w : World) (ht : Tab w) : Calls Tryz.prog 252 #[.int .i64 y, .int .i64 m] w fun e w' => e = .returned (.int .i64 (dim y m)) ∧ w = w' := by
 by_cases h : OkM y m
 ·exact gdays_ok y m w ht h
 ·rw [dim_no h]; exact gdays_no y m w h
theorem gbefore_any (y : Int) (w : World) (h1 : 1 ≤ y) (h2 : y ≤ 9999) : Calls Tryz.prog 272 #[.int .i64 y] w fun e w' => e = .returned (.int .i64 (bef y)) ∧ w = w' := by
 go_enter Tryz.func272, Tryz.ntmps272
 go_wp2
 go_ret
 exact ⟨one (by unfold bef; omega), rfl⟩
def aheadArr (y : Int) : Array Value := #[.int .i64 0, .int .i64 (cum y 2), .int .i64 (cum y 3), .int .i64 (cum y 4), .int .i64 (cum y 5), .int .i64 (cum y 6), .int .i64 (cum y 7), .int .i64 (cum y 8), .int .i64 (cum y 9), .int .i64 (cum y 10), .int .i64 (cum y 11), .int .i64 (cum y 12), .int .i64 (cum y 13)]
def sumsArr (y : Int) (k : Nat) : Array Value := ((List.range 13).map fun i => Value.int .i64 (if i < k then cum y (i + 1) else 0)).toArray
def zeros13 : Array Value := #[.int .i64 0, .int .i64 0, .int .i64 0, .int .i64 0, .int .i64 0, .int .i64 0, .int .i64 0, .int .i64 0, .int .i64 0, .int .i64 0, .int .i64 0, .int .i64 0, .int .i64 0]
theorem sumsArr_size (y : Int) (k : Nat) : (sumsArr y k).size = 13 := by simp [sumsArr]
theorem sumsArr_one (y : Int) : sumsArr y 1 = zeros13 := by
 have := cum_one y
 unfold sumsArr zeros13
 simp [List.range, List.range.loop, this]
theorem sumsArr_13 (y : Int) : sumsArr y 13 = aheadArr y := by
 have := cum_one y
 unfold sumsArr aheadArr
 simp [List.range, List.range.loop, this]
theorem sumsArr_at (y : Int) (k i : Nat) (h : i < 13) : (sumsArr y k)[i]? = some (Value.int .i64 (if i < k then cum y (i + 1) else 0)) := by
 unfold sumsArr; simp [h]
theorem sumsArr_set (y : Int) (k : Nat) (h : k < 13) : (sumsArr y k).setIfInBounds k (.int .i64 (cum y (k + 1))) = sumsArr y (k + 1) := by
 apply Array.ext_getElem?
 intro i
 rw [Array.getElem?_setIfInBounds]
 by_cases hi : i < 13
 ·rw [sumsArr_at y k i hi, sumsArr_at y (k + 1) i hi, sumsArr_size]
  by_cases e : k = i
  ·subst e; simp [h]
  ·simp only [if_neg e]
   by_cases e2 : i < k
   ·rw [if_pos e2, if_pos (by omega)]
   ·rw [if_neg e2, if_neg (by omega)]
 ·have h1 : (sumsArr y k)[i]? = none := by simp [sumsArr]; omega
  have h2 : (sumsArr y (k + 1))[i]? = none := by simp [sumsArr]; omega
  rw [h1, h2, sumsArr_size]
  by_cases e : k = i
  ·omega
  ·simp [e]
theorem ahead_size (y : Int) : (aheadArr y).size = 13 := rfl
theorem ahead_info (y : Int) : (Tryz.prog.info? 370).map (·.size) = some (aheadArr y).size := by rw [ahead_size]; kernel_rfl
theorem ahead_cells (y : Int) : (aheadArr y).all (·.oneCell') = true := by simp [aheadArr, Value.oneCell']
structure Sums (w0 : World) (y : Int) (k : Nat) (wr : World) : Prop where
 res : BlockIs wr w0.heap.size zeros13 370
 arr : BlockIs wr (w0.heap.size + 1) (sumsArr y k) 370
 below : Below w0.heap.size w0 wr
theorem Sums.drew {w0 : World} {y : Int} {k : Nat} {wr : World} (h : Sums w0 y k wr) : Sums w0 y k wr.drew := ⟨h.res, h.arr, h.below.drew⟩
theorem Sums.start (w0 : World) (y : Int) : Sums w0 y 1 ((w0.alloc (.cells zeros13 370)).alloc (.cells zeros13 370)) :=
 ⟨(BlockIs.new w0 _ _).alloc _, by rw [sumsArr_one]; have := BlockIs.new (w0.alloc (.cells zeros13 370)) zeros13 370; simpa using this, ((Below.refl _ _).alloc (Nat.le_refl _) _).alloc (by simp) _⟩
theorem Sums.cell {w0 : World} {y : Int} {k : Nat} {wr : World} (h : Sums w0 y k wr) {i : Nat} (hi : i < 13) : wr.cell? ⟨w0.heap.size + 1, i, none⟩ = some (Value.int .i64 (if i < k then cum y (i + 1) else 0)) := h.arr.cell (sumsArr_at y k i hi)
theorem Sums.set {w0 : World} {y : Int} {k : Nat} {wr : World} (h : Sums w0 y k wr) (hk : k < 13) : Sums w0 y (k + 1) (wr.setCell ⟨w0.heap.size + 1, k, none⟩ (.int .i64 (cum y (k + 1)))) :=
 ⟨h.res.other (by simp) _, by have := h.arr.set k (.int .i64 (cum y (k + 1))); rwa [sumsArr_set y k hk] at this, h.below.setCell (by simp) _⟩
theorem gahead_any (y : Int) (w : World) (ht : Tab w) (h1 : 1 ≤ y) (h2 : y ≤ 9999) : Calls Tryz.prog 234 #[.int .i64 y] w fun e w' => e = .returned (.agg (aheadArr y)) ∧ Below w.heap.size w w' := by
 go_enter Tryz.func234, Tryz.ntmps234
 go_wp2_with fail
 go_loopw [4] (fun m wr => ∃ k : Nat, 1 ≤ k ∧ k ≤ 13 ∧ m = .int .i64 k ∧ Sums w y k wr) (fun m wr => 13 - (intOf m).toNat)
 case atStart => exact ⟨1, by omega, by omega, rfl, Sums.start w y⟩
 case round =>
  obtain ⟨k, hk1, hk2, rfl, hs⟩ := hrel
  by_cases hlt : k ≤ 12
  ·have htb : Tab wr := ht.below hs.below
   have hok : OkM y k := ⟨h1, h2, by omega, by omega⟩
   have c1 : wr.cell? ⟨w.heap.size + 1, k - 1, none⟩ = some (.int .i64 (cum y k)) := by
    have := hs.cell (i := k - 1) (by omega)
    rw [if_pos (by omega)] at this
    rw [this]; congr 2; congr 1; omega
   have c2 : wr.cell? ⟨w.heap.size + 1, k, none⟩ = some (.int .i64 0) := by
    have := hs.cell (i := k) (by omega)
    rw [if_neg (by omega)] at this
    exact this
   have c3 := hs.arr.free k
   have hcs := Lib.hid (cum_succ hok)
   have hcb := cum_bd y (m := k) (by omega) (by omega)
   have hdb := dim_bd y k
   have hS := Lib.hid hs
   clear hs
   go_wp2_with fail
   have e2 : 0 ≤ (k : Int) - 1 := by omega
   have e3 : (k : Int) - 1 < 13 := by omega
   have e5 : (k : Int) < 13 := by omega
   have e6 : 0 ≤ (k : Int) := by omega
   have e4 : ((k : Int) - 1).toNat = k - 1 := by omega
   have e1 : IntKind.i64.wrap ((k : Int) - 1) = (k : Int) - 1 := IntWalk.i64_in _ ⟨by omega, by omega⟩
   have e7 : (1 : Int) ≤ (k : Int) := by omega
   have hnext : Sums w y (k + 1) ((wr.setCell ⟨w.heap.size + 1, k, none⟩ (.int .i64 (IntKind.i64.wrap (cum y k + dim y k)))).drew) := by
    rw [IntWalk.i64_in _ ⟨by omega, by omega⟩, ← hcs.out]
    exact (hS.out.set (by omega)).drew
   have cnext : ((wr.setCell ⟨w.heap.size + 1, k, none⟩ (.int .i64 (IntKind.i64.wrap (cum y k + dim y k)))).drew).cell? ⟨w.heap.size + 1, k - 1, none⟩ = some (.int .i64 (cum y k)) := by
    have := hnext.cell (i := k - 1) (by omega)
    rw [if_pos (by omega)] at this
    rw [this]; congr 2; congr 1; omega
   have hN := Lib.hid hnext
   have cN := Lib.hid cnext
   clear hnext cnext
   go_region_held3 (fun w' => w'.cell? ⟨w.heap.size + 1, k - 1, none⟩ = some (.int .i64 (cum y k)) ∧ Below w.heap.size w w')
    (first | (exact ⟨by simpa using c1, hS.out.below.drew⟩) | assumption | (exact ⟨cN.out, hN.out.below⟩) | go_keep)
    (first | (go_at_call 252; refine (gdays_ok _ _ _ (by exact ht.below (And.right (by assumption))) hok).mono ?_; rintro e w' ⟨rfl, rfl⟩))
   clear e1 e2 e3 e4 e5 e6 e7 cN
   clear ‹_ ∧ Below _ _ _›
   generalize (wr.setCell ⟨w.heap.size + 1, k, none⟩ (.int .i64 (IntKind.i64.wrap (cum y k + dim y k)))).drew = w2 at *
   go_wp2
   go_roundw
   case rel => exact ⟨k + 1, by omega, by omega, by go_num, hN.out⟩
   case measure => simp [intOf]; omega
  ·have e : k = 13 := by omega
   have hr := hs.res
   have ha := hs.arr
   rw [e, sumsArr_13] at ha
   have e13 : (13 : Int) ≤ (k : Int) := by omega
   clear e
   have hb := hs.below
   clear hs
   have hgt : 13 ≤ k := by omega
   clear hlt
   have q1 := ahead_info y
   have q2 : zeros13.size = (aheadArr y).size := rfl
   have q3 := ahead_cells y
   have q1 := Lib.hid q1
   have q2 := Lib.hid q2
   have q3 := Lib.hid q3
   have hdk : decide ((k : Int) ≤ 12) = false := by simp; omega
   go_wp2_with (first
    | (refine wpList_load_row (by rfl) _ _ (by rfl) (w.heap.size + 1) (by rfl) _ _ _ _ ha Tryz.underlying370 (by rfl) q1.out ?_)
    | (refine wpList_store_row (by rfl) _ _ _ (by rfl) w.heap.size (aheadArr y) (by rfl) (by rfl) _ _ hr q1.out q2.out q3.out ?_))
   refine bodyPost_ret (v := .agg (aheadArr y)) (results_cell_row rfl _ _ w.heap.size _ _ _ _ (by rfl) (hr.row (aheadArr y)) Tryz.underlying370 (by rfl) q1.out) (by rfl) ⟨rfl, below_setRow hb (Nat.le_refl _) _⟩
end Go.Proofs.YtfnifgppblbjhaaGreatDoor
