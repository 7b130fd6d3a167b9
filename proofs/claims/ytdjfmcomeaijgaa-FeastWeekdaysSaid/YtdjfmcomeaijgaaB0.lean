/- What a block of cells holds, behind a store, a new block, a draw: no program in sight. -/
import Derived.Below
import Derived.OneCell
import Derived.Laws.Rows
import Derived.Laws.Tables
import Derived.WalkKit
import Derived.Deep.Draws
import Derived.Deep.QuietTactic
namespace Go.Proofs.Ytdjfmcomeaijgaa
open Go.RowKit

/-- Block b is made of just these cells, none of them frozen. -/
def BlockIs (w : World) (b : Nat) (cs : Array Value) (t : TypeId) : Prop := w.heap[b]? = some (.cells cs t (0, 0))

theorem BlockIs.lt {w : World} {b : Nat} {cs : Array Value} {t : TypeId} (h : BlockIs w b cs t) : b < w.heap.size := (Array.getElem?_eq_some_iff.1 h).1
theorem BlockIs.cell {w : World} {b : Nat} {cs : Array Value} {t : TypeId} (h : BlockIs w b cs t) {i : Nat} {v : Value} (hi : cs[i]? = some v) : w.cell? ⟨b, i, none⟩ = some v := by
  unfold BlockIs at h; simp [World.cell?, h, hi]
theorem BlockIs.free {w : World} {b : Nat} {cs : Array Value} {t : TypeId} (h : BlockIs w b cs t) (i : Nat) : w.frozen? ⟨b, i, none⟩ = false := by
  unfold BlockIs at h; simp [World.frozen?, h]
theorem BlockIs.below {n : Nat} {w w' : World} {b : Nat} {cs : Array Value} {t : TypeId} (h : BlockIs w b cs t) (hb : Below n w w') (hn : b < n) : BlockIs w' b cs t := (hb.block b hn).trans h
theorem BlockIs.kept {w w' : World} {b : Nat} {cs : Array Value} {t : TypeId} (h : BlockIs w b cs t) (hb : Below w.heap.size w w') : BlockIs w' b cs t := h.below hb h.lt
theorem BlockIs.drew {w : World} {b : Nat} {cs : Array Value} {t : TypeId} (h : BlockIs w b cs t) : BlockIs w.drew b cs t := h
theorem BlockIs.drewN {w : World} {b : Nat} {cs : Array Value} {t : TypeId} (h : BlockIs w b cs t) (n : Nat) : BlockIs (w.drewN n) b cs t := h
theorem BlockIs.new (w : World) (cs : Array Value) (t : TypeId) : BlockIs (w.alloc (.cells cs t)) w.heap.size cs t := (MapKept.heap_alloc w _).1
theorem BlockIs.alloc {w : World} {b : Nat} {cs : Array Value} {t : TypeId} (h : BlockIs w b cs t) (o : Obj) : BlockIs (w.alloc o) b cs t := (Below.heap_alloc w o b h.lt).trans h
theorem BlockIs.other {w : World} {b : Nat} {cs : Array Value} {t : TypeId} (h : BlockIs w b cs t) {a : Addr} (ha : b ≠ a.block) (v : Value) : BlockIs (w.setCell a v) b cs t := (Below.heap_setCell w a v b ha).trans h
theorem BlockIs.set {w : World} {b : Nat} {cs : Array Value} {t : TypeId} (h : BlockIs w b cs t) (i : Nat) (v : Value) : BlockIs (w.setCell ⟨b, i, none⟩ v) b (cs.setIfInBounds i v) t := by
  unfold BlockIs at *
  rw [setCell_eq_setRow w b i cs t (0, 0) v h]
  exact setRow_heap w b cs _ t (0, 0) h
theorem BlockIs.row {w : World} {b : Nat} {cs : Array Value} {t : TypeId} (h : BlockIs w b cs t) (cs' : Array Value) : BlockIs (w.setRow b cs') b cs' t := setRow_heap w b cs cs' t (0, 0) h
theorem BlockIs.rowOther {w : World} {b : Nat} {cs : Array Value} {t : TypeId} (h : BlockIs w b cs t) {b' : Nat} (hb : b ≠ b') (cs' : Array Value) : BlockIs (w.setRow b' cs') b cs t := (setRow_other w b' b cs' hb).trans h
theorem below_setRow {B : Nat} {a w : World} (h : Below B a w) {b : Nat} (hb : B ≤ b) (cs : Array Value) : Below B a (w.setRow b cs) :=
  h.trans ⟨rfl, rfl, rfl, by simp [World.setRow], fun k hk => setRow_other w b k cs (by omega)⟩
theorem below_drewN {B : Nat} {a w : World} (h : Below B a w) (n : Nat) : Below B a (w.drewN n) := ⟨h.os, h.tape, h.output, h.size, h.block⟩
theorem below_two {w w1 w2 : World} (h1 : Below w.heap.size w w1) (h2 : Below w1.heap.size w1 w2) : Below w.heap.size w w2 := h1.trans (h2.mono h1.size)
theorem bcell {W w1 : World} (hb : Below W.heap.size W w1) : (∀ b o, b < W.heap.size → w1.cell? ⟨b, o, none⟩ = W.cell? ⟨b, o, none⟩) ∧ (∀ b o, b < W.heap.size → w1.frozen? ⟨b, o, none⟩ = W.frozen? ⟨b, o, none⟩) :=
  ⟨fun b o h => hb.cell (p := ⟨b, o, none⟩) h, fun b o h => hb.frozen (p := ⟨b, o, none⟩) h⟩

theorem quiet_left {P : Program} {f : FuncId} {args : Array Value} {w : World} {n : Nat} {v : Value}
    (h : Calls P f args (w.drewN n) fun e w' => e = .returned v ∧ w.drewN n = w') : Calls P f args (w.drewN n) fun e w'' => e = .returned v ∧ ∃ m, w'' = w.drewN m :=
  h.mono fun _ _ ⟨he, hm⟩ => ⟨he, n, hm.symm⟩
theorem quiet_add_left {P : Program} {f : FuncId} {args : Array Value} {w : World} {a n : Nat} {v : Value}
    (h : Calls P f args (w.drewN (a + n)) fun e w' => e = .returned v ∧ w.drewN (a + n) = w') :
    Calls P f args (w.drewN (a + n)) fun e w'' => e = .returned v ∧ ∃ m, w'' = w.drewN (a + m) :=
  h.mono fun _ _ ⟨he, hm⟩ => ⟨he, n, hm.symm⟩

/-- A cell that is held, and a world that has grown since: behind one call more. -/
theorem keepS {c : Addr} {v : Value} {n : Nat} {w0 W w2 : World} (h : W.cell? c = some v ∧ Below n w0 W) (hb : Below W.heap.size W w2) (hc : c.block < n) (hn : n ≤ w0.heap.size) : w2.cell? c = some v ∧ Below n w0 w2 := by
  have hs := h.2.size
  exact ⟨(hb.cell (by omega)).trans h.1, h.2.trans (hb.mono (by omega))⟩

/-- Three cells that are held, and a world that has grown since: behind one call more. -/
theorem keep3 {b : Nat} {v0 v1 v2 : Value} {n : Nat} {w0 W w2 : World} (h : W.cell? ⟨b, 0, none⟩ = some v0 ∧ W.cell? ⟨b, 1, none⟩ = some v1 ∧ W.cell? ⟨b, 2, none⟩ = some v2 ∧ Below n w0 W) (hb : Below W.heap.size W w2) (hc : b < n) (hn : n ≤ w0.heap.size) :
    w2.cell? ⟨b, 0, none⟩ = some v0 ∧ w2.cell? ⟨b, 1, none⟩ = some v1 ∧ w2.cell? ⟨b, 2, none⟩ = some v2 ∧ Below n w0 w2 := by
  obtain ⟨h0, h1, h2, h3⟩ := h
  have hs := h3.size
  exact ⟨(hb.cell (p := ⟨b, 0, none⟩) (by show b < _; omega)).trans h0, (hb.cell (p := ⟨b, 1, none⟩) (by show b < _; omega)).trans h1, (hb.cell (p := ⟨b, 2, none⟩) (by show b < _; omega)).trans h2, h3.trans (hb.mono (by omega))⟩

end Go.Proofs.Ytdjfmcomeaijgaa
