/- Zones, as plain numbers: no program in sight. -/
import Derived.Test.YtdjfmcomeaijgaaDoorG2
namespace Go.Proofs.YtdjfmcomeaijgaaDoor
open Go.RowKit

/-- A zone's ten numbers: its base, its shift, and two turns (month, week, weekday, minute). -/
structure Zn where
  b : Int
  s : Int
  m : Int
  k : Int
  d : Int
  t : Int
  m' : Int
  k' : Int
  d' : Int
  t' : Int
def Zn.arr (z : Zn) : Array Value := #[.int .i64 z.b, .int .i64 z.s, .int .i64 z.m, .int .i64 z.k, .int .i64 z.d, .int .i64 z.t, .int .i64 z.m', .int .i64 z.k', .int .i64 z.d', .int .i64 z.t']
/-- May a turn be? -/
def tOk (m k d t : Int) : Bool := decide (1 ≤ m) && decide (m ≤ 12) && decide (1 ≤ k) && decide (k ≤ 5) && decide (0 ≤ d) && decide (d ≤ 6) && decide (0 ≤ t) && decide (t ≤ 1439)
def zeroT (m k d t : Int) : Bool := (m == 0) && (k == 0) && (d == 0) && (t == 0)
theorem tOk_iff {m k d t : Int} : tOk m k d t = true ↔ 1 ≤ m ∧ m ≤ 12 ∧ 1 ≤ k ∧ k ≤ 5 ∧ 0 ≤ d ∧ d ≤ 6 ∧ 0 ≤ t ∧ t ≤ 1439 := by
  unfold tOk; simp only [Bool.and_eq_true, decide_eq_true_eq, and_assoc]
def gapM (z : Zn) : Int := if z.m < z.m' then z.m' - z.m else z.m - z.m'
/-- May a zone be? -/
def zErr (z : Zn) : Int :=
  if z.b < -720 ∨ 840 < z.b then 60
  else if z.s < 0 ∨ 120 < z.s then 61
  else if z.s = 0 then (if zeroT z.m z.k z.d z.t = true ∧ zeroT z.m' z.k' z.d' z.t' = true then 0 else 62)
  else if tOk z.m z.k z.d z.t = true ∧ tOk z.m' z.k' z.d' z.t' = true ∧ 2 ≤ gapM z ∧ gapM z ≤ 10 then 0 else 62

end Go.Proofs.YtdjfmcomeaijgaaDoor
