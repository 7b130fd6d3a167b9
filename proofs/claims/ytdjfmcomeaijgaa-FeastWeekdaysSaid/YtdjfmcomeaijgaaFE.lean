/- feast.kind: its drawn region, by what is done. -/
import Derived.Test.YtdjfmcomeaijgaaFD
namespace Go.Proofs.Ytdjfmcomeaijgaa
open Go Go.RowKit
set_option linter.unusedVariables false
set_option linter.unusedSimpArgs false

/-- The operations of a body's second region, where that opens a pair. -/
def opsIn2 (b : Option Code) : Array Oper := match b with
  | some (.seq _ (.seq (.seq (.region _ ops _) _) _)) => ops
  | _ => #[]
theorem kindOps_size : (opsIn2 Try.f69.body).size = 9 := by kernel_rfl
theorem kindEdges : ((opsIn2 Try.f69.body).toList.zipIdx.all fun x => x.1.after.all fun e => decide (e.on < x.2)) = true := by kernel_rfl
theorem kop_0 : ((opsIn2 Try.f69.body)[0]?).map (fun o => (o.dst, o.op, o.guard)) = some (some 6, .call { callee := .value (.func 75), args := #[], argTypes := #[] }, none) := by kernel_rfl
theorem kop_1 : ((opsIn2 Try.f69.body)[1]?).map (fun o => (o.dst, o.op, o.guard)) = some (some 7, .fieldAddr 36 (.tmp 2) 1, none) := by kernel_rfl
theorem kop_2 : ((opsIn2 Try.f69.body)[2]?).map (fun o => (o.dst, o.op, o.guard)) = some (some 8, .load 3 (.tmp 7), none) := by kernel_rfl
theorem kop_3 : ((opsIn2 Try.f69.body)[3]?).map (fun o => (o.dst, o.op, o.guard)) = some (some 9, .fieldAddr 36 (.tmp 2) 2, none) := by kernel_rfl
theorem kop_4 : ((opsIn2 Try.f69.body)[4]?).map (fun o => (o.dst, o.op, o.guard)) = some (some 10, .load 3 (.tmp 9), none) := by kernel_rfl
theorem kop_5 : ((opsIn2 Try.f69.body)[5]?).map (fun o => (o.dst, o.op, o.guard)) = some (some 11, .build 73 #[(0, .tmp 8), (1, .tmp 10)], none) := by kernel_rfl
theorem kop_6 : ((opsIn2 Try.f69.body)[6]?).map (fun o => (o.dst, o.op, o.guard)) = some (some 12, .lookup 70 (.tmp 6) (.tmp 11) false, none) := by kernel_rfl
theorem kop_7 : ((opsIn2 Try.f69.body)[7]?).map (fun o => (o.dst, o.op, o.guard)) = some (some 5, .alloc 69, none) := by kernel_rfl
theorem kop_8 : ((opsIn2 Try.f69.body)[8]?).map (fun o => (o.dst, o.op, o.guard)) = some (none, .store 69 (.tmp 5) (.tmp 12), none) := by kernel_rfl
theorem ke_2 : ((opsIn2 Try.f69.body)[2]?).map (fun o => o.after.toList.map (·.on)) = some [1] := by kernel_rfl
theorem ke_4 : ((opsIn2 Try.f69.body)[4]?).map (fun o => o.after.toList.map (·.on)) = some [3] := by kernel_rfl
theorem ke_5 : ((opsIn2 Try.f69.body)[5]?).map (fun o => o.after.toList.map (·.on)) = some [2, 4] := by kernel_rfl
theorem ke_6 : ((opsIn2 Try.f69.body)[6]?).map (fun o => o.after.toList.map (·.on)) = some [0, 5] := by kernel_rfl
theorem ke_8 : ((opsIn2 Try.f69.body)[8]?).map (fun o => o.after.toList.map (·.on)) = some [7, 6, 0, 0, 1, 2, 3, 4, 5, 6, 7] := by kernel_rfl

theorem run_fa1 (b : Nat) (w : World) : (Instr.fieldAt 36 (.pointer (some ⟨b, 0, none⟩)) 1).run Try.prog w = .ok (.pointer (some ⟨b, 1, none⟩)) w := by kernel_rfl
theorem run_fa2 (b : Nat) (w : World) : (Instr.fieldAt 36 (.pointer (some ⟨b, 0, none⟩)) 2).run Try.prog w = .ok (.pointer (some ⟨b, 2, none⟩)) w := by kernel_rfl
theorem run_ldi {b o : Nat} {n : Int} {w : World} (h : w.cell? ⟨b, o, none⟩ = some (.int .i64 n)) : (Instr.loadAt 3 (.pointer (some ⟨b, o, none⟩))).run Try.prog w = .ok (.int .i64 n) w := by
  simp [go_sem, Instr.loadAt, h]
theorem run_pl (m d : Int) (w : World) : (Instr.build 73 #[(0, .int .i64 m), (1, .int .i64 d)]).run Try.prog w = .ok (.agg #[.int .i64 m, .int .i64 d]) w :=
  run_build w _ _ _ (by kernel_rfl)
theorem run_al (w : World) : (Instr.alloc 69 true (.tuple #[])).run Try.prog w = .ok (.pointer (some ⟨w.heap.size, 0, none⟩)) (w.alloc (.cells #[.int .i64 0, .bool false] 69)) := by kernel_rfl
theorem holyInfo : (Try.prog.info? 69).map (·.size) = some 2 := by kernel_rfl

end Go.Proofs.Ytdjfmcomeaijgaa
