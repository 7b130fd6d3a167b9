/- feast.holies: the region that lays the map, in whatever order its thirteen rows come. -/
import Derived.Test.YtdjfmcomeaijgaaFB
namespace Go.Proofs.Ytdjfmcomeaijgaa
open Go Go.RowKit
set_option linter.unusedVariables false
set_option linter.unusedSimpArgs false

/-- The operations of a body's second region. -/
def opsIn (b : Option Code) : Array Oper := match b with
  | some (.seq _ (.seq (.region _ ops _) _)) => ops
  | _ => #[]
theorem holyOps_size : (opsIn Try.f75.body).size = 42 := by kernel_rfl
theorem mixedS2 : Try.prog.follows .mixedOrders = true := by kernel_rfl
theorem holyEdges : ((opsIn Try.f75.body).toList.zipIdx.all fun x => x.1.after.all fun e => decide (e.on < x.2)) = true := by kernel_rfl

def hmake : Oper := { dst := some 1, op := .makeMap 70 none, type := 70, pos := "feast.go:24", after := #[], guard := none }
def hkey (j : Nat) : Oper := { dst := some (2 * j + 2), op := .build 73 #[(0, .const (.int .i64 (row13 j).1.1)), (1, .const (.int .i64 (row13 j).1.2))], type := 73, pos := "feast.go:24", after := #[], guard := none }
def hval (j : Nat) : Oper := { dst := some (2 * j + 3), op := .build 69 #[(0, .const (.int .i64 (row13 j).2.1)), (1, .const (.bool (row13 j).2.2))], type := 69, pos := "feast.go:24", after := #[], guard := none }
def hins (j : Nat) : Oper := { dst := none, op := .insert 70 (.tmp 1) (.tmp (2 * j + 2)) (.tmp (2 * j + 3)), type := 0, pos := "feast.go:24", after := #[{ on := 0, ground := .data }, { on := 3 * j + 1, ground := .data }, { on := 3 * j + 2, ground := .data }], guard := none }

theorem op_0 : (opsIn Try.f75.body)[0]? = some hmake := by kernel_rfl
theorem op_key {j : Nat} (h : j < 13) : (opsIn Try.f75.body)[3 * j + 1]? = some (hkey j) := by
  rcases thirteenN h with e | e | e | e | e | e | e | e | e | e | e | e | e <;> subst e <;> kernel_rfl
theorem op_val {j : Nat} (h : j < 13) : (opsIn Try.f75.body)[3 * j + 2]? = some (hval j) := by
  rcases thirteenN h with e | e | e | e | e | e | e | e | e | e | e | e | e <;> subst e <;> kernel_rfl
theorem op_ins {j : Nat} (h : j < 13) : (opsIn Try.f75.body)[3 * j + 3]? = some (hins j) := by
  rcases thirteenN h with e | e | e | e | e | e | e | e | e | e | e | e | e <;> subst e <;> kernel_rfl
theorem op_40 : ((opsIn Try.f75.body)[40]?).map (fun o => (o.dst, o.op, o.guard)) = some (some 28, .move (.tmp 1), none) := by kernel_rfl
theorem op_41 : ((opsIn Try.f75.body)[41]?).map (fun o => (o.dst, o.op, o.guard)) = some (some 0, .assign (.tmp 28), none) := by kernel_rfl
theorem op_all {i : Nat} (h : i < 42) : i = 0 ∨ (∃ j, j < 13 ∧ i = 3 * j + 1) ∨ (∃ j, j < 13 ∧ i = 3 * j + 2) ∨ (∃ j, j < 13 ∧ i = 3 * j + 3) ∨ i = 40 ∨ i = 41 := by
  by_cases c : i = 0 ∨ i = 40 ∨ i = 41
  · omega
  · have : i % 3 = 0 ∨ i % 3 = 1 ∨ i % 3 = 2 := by omega
    rcases this with r | r | r
    · exact .inr (.inr (.inr (.inl ⟨i / 3 - 1, by omega, by omega⟩)))
    · exact .inr (.inl ⟨i / 3, by omega, by omega⟩)
    · exact .inr (.inr (.inl ⟨i / 3, by omega, by omega⟩))

/-- Where nothing is ready any more, all is done. -/
theorem all_listed {md : Region.Mode} {ops : Array Oper} {listed : Array Bool} (hE : (ops.toList.zipIdx.all fun x => x.1.after.all fun e => decide (e.on < x.2)) = true) (hs : listed.size = ops.size) (hr : Region.ready md ops listed = []) :
    ∀ i, i < ops.size → listed.getD i false = true := by
  intro i
  induction i using Nat.strongRecOn with
  | ind i ih =>
    intro hi
    refine Classical.byContradiction fun c => ?_
    have hm : i ∈ Region.ready md ops listed := by
      rw [mem_ready]
      have hl : i < listed.size := by omega
      refine ⟨by simpa [hl] using c, ops[i], by simp [hi], fun e he _ => ?_⟩
      have hx : (ops[i], i) ∈ ops.toList.zipIdx := by
        rw [List.mem_zipIdx_iff_getElem?]
        simp [hi]
      have h2 := List.all_eq_true.1 hE _ hx
      have h3 := Array.all_eq_true_iff_forall_mem.1 h2 e he
      have h4 : e.on < i := by simpa using h3
      exact ih _ h4 (by omega)
    rw [hr] at hm
    cases hm

/-- What is done, what the slots hold of it, and what lies in the map. -/
structure HInv (W0 : World) (listed : Array Bool) (a : Act) (w : World) : Prop where
  size : listed.size = 42
  tmps : a.tmps.size = 29
  defers : a.defers = []
  start : listed.getD 0 false = false → w = W0
  made : listed.getD 0 false = true → a.tmps[1]? = some (.map (some W0.heap.size)) ∧ MapHas w W0.heap.size (fun j => listed.getD (3 * j + 3) false) ∧ Below W0.heap.size W0 w
  first : ∀ j, listed.getD (3 * j + 3) false = true → listed.getD 0 false = true
  keys : ∀ j, j < 13 → listed.getD (3 * j + 1) false = true → a.tmps[2 * j + 2]? = some (keyA j)
  vals : ∀ j, j < 13 → listed.getD (3 * j + 2) false = true → a.tmps[2 * j + 3]? = some (valA j)
  last : listed.getD 40 false = true → a.tmps[28]? = some (.map (some W0.heap.size))
  res : listed.getD 41 false = true → a.tmps[0]? = some (.map (some W0.heap.size))

end Go.Proofs.Ytdjfmcomeaijgaa
