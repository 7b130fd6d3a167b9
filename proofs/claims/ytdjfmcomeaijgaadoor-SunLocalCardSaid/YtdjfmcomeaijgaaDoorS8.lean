/- A table of twelve numbers; what a walk keeps of it. -/
import Derived.Test.YtdjfmcomeaijgaaDoorS7
import Derived.Test.YtdjfmcomeaijgaaDoorS6
namespace Go.Proofs.YtdjfmcomeaijgaaDoor
open Go Go.RowKit

def sun12 (a0 a1 a2 a3 a4 a5 a6 a7 a8 a9 a10 a11 : Int) : Nat → Int := fun i => match i with | 0 => a0 | 1 => a1 | 2 => a2 | 3 => a3 | 4 => a4 | 5 => a5 | 6 => a6 | 7 => a7 | 8 => a8 | 9 => a9 | 10 => a10 | _ => a11
theorem sun12_i64 {a0 a1 a2 a3 a4 a5 a6 a7 a8 a9 a10 a11 : Int} (w0 : (Lit.int .i64 a0).wf = true) (w1 : (Lit.int .i64 a1).wf = true) (w2 : (Lit.int .i64 a2).wf = true) (w3 : (Lit.int .i64 a3).wf = true) (w4 : (Lit.int .i64 a4).wf = true) (w5 : (Lit.int .i64 a5).wf = true) (w6 : (Lit.int .i64 a6).wf = true) (w7 : (Lit.int .i64 a7).wf = true) (w8 : (Lit.int .i64 a8).wf = true) (w9 : (Lit.int .i64 a9).wf = true) (w10 : (Lit.int .i64 a10).wf = true) (w11 : (Lit.int .i64 a11).wf = true) : ∀ i, i < 12 → I64 (sun12 a0 a1 a2 a3 a4 a5 a6 a7 a8 a9 a10 a11 i) := by
  intro i h
  rcases twelve h with e | e | e | e | e | e | e | e | e | e | e | e
  all_goals subst e
  all_goals first | exact i64_of w0 | exact i64_of w1 | exact i64_of w2 | exact i64_of w3 | exact i64_of w4 | exact i64_of w5 | exact i64_of w6 | exact i64_of w7 | exact i64_of w8 | exact i64_of w9 | exact i64_of w10 | exact i64_of w11
theorem keepR {b o : Nat} {cs : List Value} {n : Nat} {w0 W w2 : World} (h : W.rangeAt b o cs ∧ Below n w0 W) (hb : Below W.heap.size W w2) (hn : n ≤ w0.heap.size) : w2.rangeAt b o cs ∧ Below n w0 w2 := by
  obtain ⟨h0, h2⟩ := h
  have hs := h2.size
  exact ⟨range_below (n := 0) h0 hb, h2.trans (hb.mono (by omega))⟩

end Go.Proofs.YtdjfmcomeaijgaaDoor
