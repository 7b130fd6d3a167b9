/-
  No cell of these rows narrows 'for every input' (looked for: loops, veiled, ifaces, maps, wideKeys, modest, calm, conditions, laid).
  DERIVED. THE GIVEN ROWS OF THIS SEAT. 7 by the template 'for every input the law returns true; each argument reads behind the call as it read before'; 0 by the template 'total and deterministic' (their statements: YtmfkdfkoopnnpaaTotals.lean).
  GIVEN WITH THE SEED: the statements are not yours to turn. If you find one false, say at which input.
  Laid BY PROGRAM, IN A SANDBOX (cutbox-rows.mjs): the forced cells as the released guide's own fill.sh prints them over the translation e33d2c07fc7c12b7… (all of the seat's roots in one cut). By AI agents, Wed Nov 11 2026. No macro, syntax, notation, axiom, sorry.
-/
import Derived.Test.YtmfkdfkoopnnpaaChecked
import GoSem.Claim
import GoSem.ClaimJoined
import GoSem.ClaimMapViews
import Derived.JoinedTies
import Derived.KernelRfl
namespace Go.Proofs.Ytmfkdfkoopnnpaa
/- THE CELL 'sum', in the pinned program and in every row, IS THE sha256 OF THE DUMP (.gsa) THAT YtmfkdfkoopnnpaaProg.lean LOADS. Nothing in Lean hashes anything: it is a label: what it is worth is what the hold of that sum in a sandbox is worth. -/
noncomputable def Try.pinned : Pinned := { name := "ytmfkdfkoopnnpaa", sum := "e33d2c07fc7c12b722c42a3e13087c9e40368ec2ca8e590b0bcb0d19205b8930", checked := Try.checked }
namespace Rows
def none {H : Type} : Left H := { results := [], args := [] }

/-- 'newellaw01.DivsTells': WHATEVER THE INPUT: true; the input reads as it did. -/
def divsTellsSpec : ChangeSpec := { name := "divsTells", fn := fun _ => fun
  | [d1, d2] => { results := [.lit (.bool true)], args := [d1, d2] }
  | _ => none }
def divsTellsRow : OpenClaim := { program := "ytmfkdfkoopnnpaa", sum := "e33d2c07fc7c12b722c42a3e13087c9e40368ec2ca8e590b0bcb0d19205b8930", func := "newel/newellaw01.DivsTells", spec := "divsTells", apart := false }
def DivsTellsSaid : Prop := divsTellsRow.holds Try.pinned (OpenSpec.ofChange divsTellsSpec)

/-- ITS FALSE NEIGHBOUR: 'it returns false'. Refute it at one input. -/
def divsTellsWrong : ChangeSpec := { name := "divsTells", fn := fun _ => fun
  | [d1, d2] => { results := [.lit (.bool false)], args := [d1, d2] }
  | _ => none }
def DivsTellsWrongFalsely : Prop := divsTellsRow.holds Try.pinned (OpenSpec.ofChange divsTellsWrong)

/-- 'newellaw01.DivsNexts': WHATEVER THE INPUT: true; the input reads as it did. -/
def divsNextsSpec : ChangeSpec := { name := "divsNexts", fn := fun _ => fun
  | [d1, d2, d3] => { results := [.lit (.bool true)], args := [d1, d2, d3] }
  | _ => none }
def divsNextsRow : OpenClaim := { program := "ytmfkdfkoopnnpaa", sum := "e33d2c07fc7c12b722c42a3e13087c9e40368ec2ca8e590b0bcb0d19205b8930", func := "newel/newellaw01.DivsNexts", spec := "divsNexts", apart := false }
def DivsNextsSaid : Prop := divsNextsRow.holds Try.pinned (OpenSpec.ofChange divsNextsSpec)

/-- ITS FALSE NEIGHBOUR: 'it returns false'. Refute it at one input. -/
def divsNextsWrong : ChangeSpec := { name := "divsNexts", fn := fun _ => fun
  | [d1, d2, d3] => { results := [.lit (.bool false)], args := [d1, d2, d3] }
  | _ => none }
def DivsNextsWrongFalsely : Prop := divsNextsRow.holds Try.pinned (OpenSpec.ofChange divsNextsWrong)

/-- 'newellaw01.DivsBack': WHATEVER THE INPUT: true; the input reads as it did. -/
def divsBackSpec : ChangeSpec := { name := "divsBack", fn := fun _ => fun
  | [d1, d2] => { results := [.lit (.bool true)], args := [d1, d2] }
  | _ => none }
def divsBackRow : OpenClaim := { program := "ytmfkdfkoopnnpaa", sum := "e33d2c07fc7c12b722c42a3e13087c9e40368ec2ca8e590b0bcb0d19205b8930", func := "newel/newellaw01.DivsBack", spec := "divsBack", apart := false }
def DivsBackSaid : Prop := divsBackRow.holds Try.pinned (OpenSpec.ofChange divsBackSpec)

/-- ITS FALSE NEIGHBOUR: 'it returns false'. Refute it at one input. -/
def divsBackWrong : ChangeSpec := { name := "divsBack", fn := fun _ => fun
  | [d1, d2] => { results := [.lit (.bool false)], args := [d1, d2] }
  | _ => none }
def DivsBackWrongFalsely : Prop := divsBackRow.holds Try.pinned (OpenSpec.ofChange divsBackWrong)

/-- 'newellaw01.DivsCeil': WHATEVER THE INPUT: true; the input reads as it did. -/
def divsCeilSpec : ChangeSpec := { name := "divsCeil", fn := fun _ => fun
  | [d1, d2] => { results := [.lit (.bool true)], args := [d1, d2] }
  | _ => none }
def divsCeilRow : OpenClaim := { program := "ytmfkdfkoopnnpaa", sum := "e33d2c07fc7c12b722c42a3e13087c9e40368ec2ca8e590b0bcb0d19205b8930", func := "newel/newellaw01.DivsCeil", spec := "divsCeil", apart := false }
def DivsCeilSaid : Prop := divsCeilRow.holds Try.pinned (OpenSpec.ofChange divsCeilSpec)

/-- ITS FALSE NEIGHBOUR: 'it returns false'. Refute it at one input. -/
def divsCeilWrong : ChangeSpec := { name := "divsCeil", fn := fun _ => fun
  | [d1, d2] => { results := [.lit (.bool false)], args := [d1, d2] }
  | _ => none }
def DivsCeilWrongFalsely : Prop := divsCeilRow.holds Try.pinned (OpenSpec.ofChange divsCeilWrong)

/-- 'newellaw01.DivsSteps': WHATEVER THE INPUT: true; the input reads as it did. -/
def divsStepsSpec : ChangeSpec := { name := "divsSteps", fn := fun _ => fun
  | [d1, d2, d3] => { results := [.lit (.bool true)], args := [d1, d2, d3] }
  | _ => none }
def divsStepsRow : OpenClaim := { program := "ytmfkdfkoopnnpaa", sum := "e33d2c07fc7c12b722c42a3e13087c9e40368ec2ca8e590b0bcb0d19205b8930", func := "newel/newellaw01.DivsSteps", spec := "divsSteps", apart := false }
def DivsStepsSaid : Prop := divsStepsRow.holds Try.pinned (OpenSpec.ofChange divsStepsSpec)

/-- ITS FALSE NEIGHBOUR: 'it returns false'. Refute it at one input. -/
def divsStepsWrong : ChangeSpec := { name := "divsSteps", fn := fun _ => fun
  | [d1, d2, d3] => { results := [.lit (.bool false)], args := [d1, d2, d3] }
  | _ => none }
def DivsStepsWrongFalsely : Prop := divsStepsRow.holds Try.pinned (OpenSpec.ofChange divsStepsWrong)

/-- 'newellaw01.DivsFirst': WHATEVER THE INPUT: true; the input reads as it did. -/
def divsFirstSpec : ChangeSpec := { name := "divsFirst", fn := fun _ => fun
  | [d1, d2, d3] => { results := [.lit (.bool true)], args := [d1, d2, d3] }
  | _ => none }
def divsFirstRow : OpenClaim := { program := "ytmfkdfkoopnnpaa", sum := "e33d2c07fc7c12b722c42a3e13087c9e40368ec2ca8e590b0bcb0d19205b8930", func := "newel/newellaw01.DivsFirst", spec := "divsFirst", apart := false }
def DivsFirstSaid : Prop := divsFirstRow.holds Try.pinned (OpenSpec.ofChange divsFirstSpec)

/-- ITS FALSE NEIGHBOUR: 'it returns false'. Refute it at one input. -/
def divsFirstWrong : ChangeSpec := { name := "divsFirst", fn := fun _ => fun
  | [d1, d2, d3] => { results := [.lit (.bool false)], args := [d1, d2, d3] }
  | _ => none }
def DivsFirstWrongFalsely : Prop := divsFirstRow.holds Try.pinned (OpenSpec.ofChange divsFirstWrong)

/-- 'newellaw01.DivsClamps': WHATEVER THE INPUT: true; the input reads as it did. -/
def divsClampsSpec : ChangeSpec := { name := "divsClamps", fn := fun _ => fun
  | [d] => { results := [.lit (.bool true)], args := [d] }
  | _ => none }
def divsClampsRow : OpenClaim := { program := "ytmfkdfkoopnnpaa", sum := "e33d2c07fc7c12b722c42a3e13087c9e40368ec2ca8e590b0bcb0d19205b8930", func := "newel/newellaw01.DivsClamps", spec := "divsClamps", apart := false }
def DivsClampsSaid : Prop := divsClampsRow.holds Try.pinned (OpenSpec.ofChange divsClampsSpec)

/-- ITS FALSE NEIGHBOUR: 'it returns false'. Refute it at one input. -/
def divsClampsWrong : ChangeSpec := { name := "divsClamps", fn := fun _ => fun
  | [d] => { results := [.lit (.bool false)], args := [d] }
  | _ => none }
def DivsClampsWrongFalsely : Prop := divsClampsRow.holds Try.pinned (OpenSpec.ofChange divsClampsWrong)

/- THE SECOND FORM. 'bulk': how many values and letters a reading holds, each counted each time it is reached (what is shared counts as often as it is met; a slice's spare places count too). A statement '..UptoSaid' is the law's where the arguments, and the package variables that the reading takes, are together of bulk at most 1048576: NARROWER than '..Said'. Prove '..Said' where nothing that the law and all that it calls make is longer than what came in: it says more and counts as full. Else prove '..UptoSaid'. A law counts once. -/
mutual
def uptoBulk {H : Type} : DataW H → Nat
  | .lit (.string bytes) => bytes.length + 1
  | .lit _ => 1
  | .nil => 1
  | .ptr d => uptoBulk d + 1
  | .slice elems spare => uptoBulkAll elems + uptoBulkAll spare + 1
  | .agg parts => uptoBulkAll parts + 1
  | .iface _ d => uptoBulk d + 1
  | .map entries => uptoBulkEntries entries + 1
  | .held _ => 1
def uptoBulkAll {H : Type} : List (DataW H) → Nat
  | [] => 0
  | d :: r => uptoBulk d + uptoBulkAll r
def uptoBulkEntries {H : Type} : List (Lit × DataW H) → Nat
  | [] => 0
  | x :: r => uptoBulkEntry x + uptoBulkEntries r
def uptoBulkEntry {H : Type} : Lit × DataW H → Nat
  | (.string bytes, d) => bytes.length + uptoBulk d + 1
  | (_, d) => uptoBulk d + 1
 end
def uptoSmall : (H : Type) → List (DataW H) → Bool := fun _ ds => decide (uptoBulkAll ds ≤ 1048576)
def OpenSpec.upto (s : _root_.Go.ChangeSpec) : _root_.Go.OpenSpec := { _root_.Go.OpenSpec.ofChange s with cond := some uptoSmall }

/-- 'newellaw01.DivsTells', WHERE WHAT IT READS IS OF BULK AT MOST 1048576: true; the input reads as it did. -/
def divsTellsUptoRow : OpenClaim := { program := "ytmfkdfkoopnnpaa", sum := "e33d2c07fc7c12b722c42a3e13087c9e40368ec2ca8e590b0bcb0d19205b8930", func := "newel/newellaw01.DivsTells", spec := "divsTells", apart := false, narrowed := true }
def DivsTellsUptoSaid : Prop := divsTellsUptoRow.holds Try.pinned (OpenSpec.upto divsTellsSpec)

/-- 'newellaw01.DivsNexts', WHERE WHAT IT READS IS OF BULK AT MOST 1048576: true; the input reads as it did. -/
def divsNextsUptoRow : OpenClaim := { program := "ytmfkdfkoopnnpaa", sum := "e33d2c07fc7c12b722c42a3e13087c9e40368ec2ca8e590b0bcb0d19205b8930", func := "newel/newellaw01.DivsNexts", spec := "divsNexts", apart := false, narrowed := true }
def DivsNextsUptoSaid : Prop := divsNextsUptoRow.holds Try.pinned (OpenSpec.upto divsNextsSpec)

/-- 'newellaw01.DivsBack', WHERE WHAT IT READS IS OF BULK AT MOST 1048576: true; the input reads as it did. -/
def divsBackUptoRow : OpenClaim := { program := "ytmfkdfkoopnnpaa", sum := "e33d2c07fc7c12b722c42a3e13087c9e40368ec2ca8e590b0bcb0d19205b8930", func := "newel/newellaw01.DivsBack", spec := "divsBack", apart := false, narrowed := true }
def DivsBackUptoSaid : Prop := divsBackUptoRow.holds Try.pinned (OpenSpec.upto divsBackSpec)

/-- 'newellaw01.DivsCeil', WHERE WHAT IT READS IS OF BULK AT MOST 1048576: true; the input reads as it did. -/
def divsCeilUptoRow : OpenClaim := { program := "ytmfkdfkoopnnpaa", sum := "e33d2c07fc7c12b722c42a3e13087c9e40368ec2ca8e590b0bcb0d19205b8930", func := "newel/newellaw01.DivsCeil", spec := "divsCeil", apart := false, narrowed := true }
def DivsCeilUptoSaid : Prop := divsCeilUptoRow.holds Try.pinned (OpenSpec.upto divsCeilSpec)

/-- 'newellaw01.DivsSteps', WHERE WHAT IT READS IS OF BULK AT MOST 1048576: true; the input reads as it did. -/
def divsStepsUptoRow : OpenClaim := { program := "ytmfkdfkoopnnpaa", sum := "e33d2c07fc7c12b722c42a3e13087c9e40368ec2ca8e590b0bcb0d19205b8930", func := "newel/newellaw01.DivsSteps", spec := "divsSteps", apart := false, narrowed := true }
def DivsStepsUptoSaid : Prop := divsStepsUptoRow.holds Try.pinned (OpenSpec.upto divsStepsSpec)

/-- 'newellaw01.DivsFirst', WHERE WHAT IT READS IS OF BULK AT MOST 1048576: true; the input reads as it did. -/
def divsFirstUptoRow : OpenClaim := { program := "ytmfkdfkoopnnpaa", sum := "e33d2c07fc7c12b722c42a3e13087c9e40368ec2ca8e590b0bcb0d19205b8930", func := "newel/newellaw01.DivsFirst", spec := "divsFirst", apart := false, narrowed := true }
def DivsFirstUptoSaid : Prop := divsFirstUptoRow.holds Try.pinned (OpenSpec.upto divsFirstSpec)

/-- 'newellaw01.DivsClamps', WHERE WHAT IT READS IS OF BULK AT MOST 1048576: true; the input reads as it did. -/
def divsClampsUptoRow : OpenClaim := { program := "ytmfkdfkoopnnpaa", sum := "e33d2c07fc7c12b722c42a3e13087c9e40368ec2ca8e590b0bcb0d19205b8930", func := "newel/newellaw01.DivsClamps", spec := "divsClamps", apart := false, narrowed := true }
def DivsClampsUptoSaid : Prop := divsClampsUptoRow.holds Try.pinned (OpenSpec.upto divsClampsSpec)

end Rows
end Go.Proofs.Ytmfkdfkoopnnpaa
