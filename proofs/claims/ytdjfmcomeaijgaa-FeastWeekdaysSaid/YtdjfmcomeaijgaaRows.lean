/-
  No cell of these rows narrows 'for every input' (looked for: loops, veiled, ifaces, maps, wideKeys, modest, calm, conditions, laid).
  DERIVED. THE GIVEN ROWS OF THIS SEAT. 19 by the template 'for every input the law returns true; each argument reads behind the call as it read before'; 0 by the template 'total and deterministic' (their statements: YtdjfmcomeaijgaaTotals.lean).
  GIVEN WITH THE SEED: the statements are not yours to turn. If you find one false, say at which input.
  Laid BY PROGRAM, IN A SANDBOX (cutbox-rows.mjs): the forced cells as the released guide's own fill.sh prints them over the translation b31af18dd49664c1… (all of the seat's roots in one cut). By AI agents, Wed Nov 11 2026. No macro, syntax, notation, axiom, sorry.
-/
import Derived.Test.YtdjfmcomeaijgaaChecked
import GoSem.Claim
import GoSem.ClaimJoined
import GoSem.ClaimMapViews
import Derived.JoinedTies
import Derived.KernelRfl
namespace Go.Proofs.Ytdjfmcomeaijgaa
/- THE CELL 'sum', in the pinned program and in every row, IS THE sha256 OF THE DUMP (.gsa) THAT YtdjfmcomeaijgaaProg.lean LOADS. Nothing in Lean hashes anything: it is a label: what it is worth is what the hold of that sum in a sandbox is worth. -/
noncomputable def Try.pinned : Pinned := { name := "ytdjfmcomeaijgaa", sum := "b31af18dd49664c10d6b66fcb51f27e4afa741bf3bc907b2f4ed8a3ddc9ee96a", checked := Try.checked }
namespace Rows
def none {H : Type} : Left H := { results := [], args := [] }

/-- 'newellaw03.MoladTells': WHATEVER THE INPUT: true; the input reads as it did. -/
def moladTellsSpec : ChangeSpec := { name := "moladTells", fn := fun _ => fun
  | [d] => { results := [.lit (.bool true)], args := [d] }
  | _ => none }
def moladTellsRow : OpenClaim := { program := "ytdjfmcomeaijgaa", sum := "b31af18dd49664c10d6b66fcb51f27e4afa741bf3bc907b2f4ed8a3ddc9ee96a", func := "newel/newellaw03.MoladTells", spec := "moladTells", unfollowed := true, recurses := true, plainKeys := false, apart := false }
def MoladTellsSaid : Prop := moladTellsRow.holds Try.pinned (OpenSpec.ofChange moladTellsSpec)

/-- ITS FALSE NEIGHBOUR: 'it returns false'. Refute it at one input. -/
def moladTellsWrong : ChangeSpec := { name := "moladTells", fn := fun _ => fun
  | [d] => { results := [.lit (.bool false)], args := [d] }
  | _ => none }
def MoladTellsWrongFalsely : Prop := moladTellsRow.holds Try.pinned (OpenSpec.ofChange moladTellsWrong)

/-- 'newellaw03.MoladYears': WHATEVER THE INPUT: true; the input reads as it did. -/
def moladYearsSpec : ChangeSpec := { name := "moladYears", fn := fun _ => fun
  | [d] => { results := [.lit (.bool true)], args := [d] }
  | _ => none }
def moladYearsRow : OpenClaim := { program := "ytdjfmcomeaijgaa", sum := "b31af18dd49664c10d6b66fcb51f27e4afa741bf3bc907b2f4ed8a3ddc9ee96a", func := "newel/newellaw03.MoladYears", spec := "moladYears", unfollowed := true, recurses := true, plainKeys := false, apart := false }
def MoladYearsSaid : Prop := moladYearsRow.holds Try.pinned (OpenSpec.ofChange moladYearsSpec)

/-- ITS FALSE NEIGHBOUR: 'it returns false'. Refute it at one input. -/
def moladYearsWrong : ChangeSpec := { name := "moladYears", fn := fun _ => fun
  | [d] => { results := [.lit (.bool false)], args := [d] }
  | _ => none }
def MoladYearsWrongFalsely : Prop := moladYearsRow.holds Try.pinned (OpenSpec.ofChange moladYearsWrong)

/-- 'newellaw03.MoladLens': WHATEVER THE INPUT: true; the input reads as it did. -/
def moladLensSpec : ChangeSpec := { name := "moladLens", fn := fun _ => fun
  | [d] => { results := [.lit (.bool true)], args := [d] }
  | _ => none }
def moladLensRow : OpenClaim := { program := "ytdjfmcomeaijgaa", sum := "b31af18dd49664c10d6b66fcb51f27e4afa741bf3bc907b2f4ed8a3ddc9ee96a", func := "newel/newellaw03.MoladLens", spec := "moladLens", unfollowed := true, recurses := true, plainKeys := false, apart := false }
def MoladLensSaid : Prop := moladLensRow.holds Try.pinned (OpenSpec.ofChange moladLensSpec)

/-- ITS FALSE NEIGHBOUR: 'it returns false'. Refute it at one input. -/
def moladLensWrong : ChangeSpec := { name := "moladLens", fn := fun _ => fun
  | [d] => { results := [.lit (.bool false)], args := [d] }
  | _ => none }
def MoladLensWrongFalsely : Prop := moladLensRow.holds Try.pinned (OpenSpec.ofChange moladLensWrong)

/-- 'newellaw03.MoladStarts': WHATEVER THE INPUT: true; the input reads as it did. -/
def moladStartsSpec : ChangeSpec := { name := "moladStarts", fn := fun _ => fun
  | [d] => { results := [.lit (.bool true)], args := [d] }
  | _ => none }
def moladStartsRow : OpenClaim := { program := "ytdjfmcomeaijgaa", sum := "b31af18dd49664c10d6b66fcb51f27e4afa741bf3bc907b2f4ed8a3ddc9ee96a", func := "newel/newellaw03.MoladStarts", spec := "moladStarts", unfollowed := true, recurses := true, plainKeys := false, apart := false }
def MoladStartsSaid : Prop := moladStartsRow.holds Try.pinned (OpenSpec.ofChange moladStartsSpec)

/-- ITS FALSE NEIGHBOUR: 'it returns false'. Refute it at one input. -/
def moladStartsWrong : ChangeSpec := { name := "moladStarts", fn := fun _ => fun
  | [d] => { results := [.lit (.bool false)], args := [d] }
  | _ => none }
def MoladStartsWrongFalsely : Prop := moladStartsRow.holds Try.pinned (OpenSpec.ofChange moladStartsWrong)

/-- 'newellaw03.MoladRound': WHATEVER THE INPUT: true; the input reads as it did. -/
def moladRoundSpec : ChangeSpec := { name := "moladRound", fn := fun _ => fun
  | [d] => { results := [.lit (.bool true)], args := [d] }
  | _ => none }
def moladRoundRow : OpenClaim := { program := "ytdjfmcomeaijgaa", sum := "b31af18dd49664c10d6b66fcb51f27e4afa741bf3bc907b2f4ed8a3ddc9ee96a", func := "newel/newellaw03.MoladRound", spec := "moladRound", unfollowed := true, recurses := true, plainKeys := false, apart := false }
def MoladRoundSaid : Prop := moladRoundRow.holds Try.pinned (OpenSpec.ofChange moladRoundSpec)

/-- ITS FALSE NEIGHBOUR: 'it returns false'. Refute it at one input. -/
def moladRoundWrong : ChangeSpec := { name := "moladRound", fn := fun _ => fun
  | [d] => { results := [.lit (.bool false)], args := [d] }
  | _ => none }
def MoladRoundWrongFalsely : Prop := moladRoundRow.holds Try.pinned (OpenSpec.ofChange moladRoundWrong)

/-- 'newellaw03.MoladNext': WHATEVER THE INPUT: true; the input reads as it did. -/
def moladNextSpec : ChangeSpec := { name := "moladNext", fn := fun _ => fun
  | [d] => { results := [.lit (.bool true)], args := [d] }
  | _ => none }
def moladNextRow : OpenClaim := { program := "ytdjfmcomeaijgaa", sum := "b31af18dd49664c10d6b66fcb51f27e4afa741bf3bc907b2f4ed8a3ddc9ee96a", func := "newel/newellaw03.MoladNext", spec := "moladNext", unfollowed := true, recurses := true, plainKeys := false, apart := false }
def MoladNextSaid : Prop := moladNextRow.holds Try.pinned (OpenSpec.ofChange moladNextSpec)

/-- ITS FALSE NEIGHBOUR: 'it returns false'. Refute it at one input. -/
def moladNextWrong : ChangeSpec := { name := "moladNext", fn := fun _ => fun
  | [d] => { results := [.lit (.bool false)], args := [d] }
  | _ => none }
def MoladNextWrongFalsely : Prop := moladNextRow.holds Try.pinned (OpenSpec.ofChange moladNextWrong)

/-- 'newellaw04.HebrewMonths': WHATEVER THE INPUT: true; the input reads as it did. -/
def hebrewMonthsSpec : ChangeSpec := { name := "hebrewMonths", fn := fun _ => fun
  | [d1, d2] => { results := [.lit (.bool true)], args := [d1, d2] }
  | _ => none }
def hebrewMonthsRow : OpenClaim := { program := "ytdjfmcomeaijgaa", sum := "b31af18dd49664c10d6b66fcb51f27e4afa741bf3bc907b2f4ed8a3ddc9ee96a", func := "newel/newellaw04.HebrewMonths", spec := "hebrewMonths", unfollowed := true, recurses := true, plainKeys := false, apart := false }
def HebrewMonthsSaid : Prop := hebrewMonthsRow.holds Try.pinned (OpenSpec.ofChange hebrewMonthsSpec)

/-- ITS FALSE NEIGHBOUR: 'it returns false'. Refute it at one input. -/
def hebrewMonthsWrong : ChangeSpec := { name := "hebrewMonths", fn := fun _ => fun
  | [d1, d2] => { results := [.lit (.bool false)], args := [d1, d2] }
  | _ => none }
def HebrewMonthsWrongFalsely : Prop := hebrewMonthsRow.holds Try.pinned (OpenSpec.ofChange hebrewMonthsWrong)

/-- 'newellaw04.HebrewDays': WHATEVER THE INPUT: true; the input reads as it did. -/
def hebrewDaysSpec : ChangeSpec := { name := "hebrewDays", fn := fun _ => fun
  | [d] => { results := [.lit (.bool true)], args := [d] }
  | _ => none }
def hebrewDaysRow : OpenClaim := { program := "ytdjfmcomeaijgaa", sum := "b31af18dd49664c10d6b66fcb51f27e4afa741bf3bc907b2f4ed8a3ddc9ee96a", func := "newel/newellaw04.HebrewDays", spec := "hebrewDays", unfollowed := true, recurses := true, plainKeys := false, apart := false }
def HebrewDaysSaid : Prop := hebrewDaysRow.holds Try.pinned (OpenSpec.ofChange hebrewDaysSpec)

/-- ITS FALSE NEIGHBOUR: 'it returns false'. Refute it at one input. -/
def hebrewDaysWrong : ChangeSpec := { name := "hebrewDays", fn := fun _ => fun
  | [d] => { results := [.lit (.bool false)], args := [d] }
  | _ => none }
def HebrewDaysWrongFalsely : Prop := hebrewDaysRow.holds Try.pinned (OpenSpec.ofChange hebrewDaysWrong)

/-- 'newellaw04.HebrewDates': WHATEVER THE INPUT: true; the input reads as it did. -/
def hebrewDatesSpec : ChangeSpec := { name := "hebrewDates", fn := fun _ => fun
  | [d] => { results := [.lit (.bool true)], args := [d] }
  | _ => none }
def hebrewDatesRow : OpenClaim := { program := "ytdjfmcomeaijgaa", sum := "b31af18dd49664c10d6b66fcb51f27e4afa741bf3bc907b2f4ed8a3ddc9ee96a", func := "newel/newellaw04.HebrewDates", spec := "hebrewDates", unfollowed := true, recurses := true, plainKeys := false, apart := false }
def HebrewDatesSaid : Prop := hebrewDatesRow.holds Try.pinned (OpenSpec.ofChange hebrewDatesSpec)

/-- ITS FALSE NEIGHBOUR: 'it returns false'. Refute it at one input. -/
def hebrewDatesWrong : ChangeSpec := { name := "hebrewDates", fn := fun _ => fun
  | [d] => { results := [.lit (.bool false)], args := [d] }
  | _ => none }
def HebrewDatesWrongFalsely : Prop := hebrewDatesRow.holds Try.pinned (OpenSpec.ofChange hebrewDatesWrong)

/-- 'newellaw04.HebrewNext': WHATEVER THE INPUT: true; the input reads as it did. -/
def hebrewNextSpec : ChangeSpec := { name := "hebrewNext", fn := fun _ => fun
  | [d] => { results := [.lit (.bool true)], args := [d] }
  | _ => none }
def hebrewNextRow : OpenClaim := { program := "ytdjfmcomeaijgaa", sum := "b31af18dd49664c10d6b66fcb51f27e4afa741bf3bc907b2f4ed8a3ddc9ee96a", func := "newel/newellaw04.HebrewNext", spec := "hebrewNext", unfollowed := true, recurses := true, plainKeys := false, apart := false }
def HebrewNextSaid : Prop := hebrewNextRow.holds Try.pinned (OpenSpec.ofChange hebrewNextSpec)

/-- ITS FALSE NEIGHBOUR: 'it returns false'. Refute it at one input. -/
def hebrewNextWrong : ChangeSpec := { name := "hebrewNext", fn := fun _ => fun
  | [d] => { results := [.lit (.bool false)], args := [d] }
  | _ => none }
def HebrewNextWrongFalsely : Prop := hebrewNextRow.holds Try.pinned (OpenSpec.ofChange hebrewNextWrong)

/-- 'newellaw04.HebrewSum': WHATEVER THE INPUT: true; the input reads as it did. -/
def hebrewSumSpec : ChangeSpec := { name := "hebrewSum", fn := fun _ => fun
  | [d] => { results := [.lit (.bool true)], args := [d] }
  | _ => none }
def hebrewSumRow : OpenClaim := { program := "ytdjfmcomeaijgaa", sum := "b31af18dd49664c10d6b66fcb51f27e4afa741bf3bc907b2f4ed8a3ddc9ee96a", func := "newel/newellaw04.HebrewSum", spec := "hebrewSum", unfollowed := true, recurses := true, plainKeys := false, apart := false }
def HebrewSumSaid : Prop := hebrewSumRow.holds Try.pinned (OpenSpec.ofChange hebrewSumSpec)

/-- ITS FALSE NEIGHBOUR: 'it returns false'. Refute it at one input. -/
def hebrewSumWrong : ChangeSpec := { name := "hebrewSum", fn := fun _ => fun
  | [d] => { results := [.lit (.bool false)], args := [d] }
  | _ => none }
def HebrewSumWrongFalsely : Prop := hebrewSumRow.holds Try.pinned (OpenSpec.ofChange hebrewSumWrong)

/-- 'newellaw04.HebrewSpring': WHATEVER THE INPUT: true; the input reads as it did. -/
def hebrewSpringSpec : ChangeSpec := { name := "hebrewSpring", fn := fun _ => fun
  | [d] => { results := [.lit (.bool true)], args := [d] }
  | _ => none }
def hebrewSpringRow : OpenClaim := { program := "ytdjfmcomeaijgaa", sum := "b31af18dd49664c10d6b66fcb51f27e4afa741bf3bc907b2f4ed8a3ddc9ee96a", func := "newel/newellaw04.HebrewSpring", spec := "hebrewSpring", unfollowed := true, recurses := true, plainKeys := false, apart := false }
def HebrewSpringSaid : Prop := hebrewSpringRow.holds Try.pinned (OpenSpec.ofChange hebrewSpringSpec)

/-- ITS FALSE NEIGHBOUR: 'it returns false'. Refute it at one input. -/
def hebrewSpringWrong : ChangeSpec := { name := "hebrewSpring", fn := fun _ => fun
  | [d] => { results := [.lit (.bool false)], args := [d] }
  | _ => none }
def HebrewSpringWrongFalsely : Prop := hebrewSpringRow.holds Try.pinned (OpenSpec.ofChange hebrewSpringWrong)

/-- 'newellaw05.FeastTells': WHATEVER THE INPUT: true; the input reads as it did. -/
def feastTellsSpec : ChangeSpec := { name := "feastTells", fn := fun _ => fun
  | [d1, d2] => { results := [.lit (.bool true)], args := [d1, d2] }
  | _ => none }
def feastTellsRow : OpenClaim := { program := "ytdjfmcomeaijgaa", sum := "b31af18dd49664c10d6b66fcb51f27e4afa741bf3bc907b2f4ed8a3ddc9ee96a", func := "newel/newellaw05.FeastTells", spec := "feastTells", unfollowed := true, recurses := true, plainKeys := false, apart := false }
def FeastTellsSaid : Prop := feastTellsRow.holds Try.pinned (OpenSpec.ofChange feastTellsSpec)

/-- ITS FALSE NEIGHBOUR: 'it returns false'. Refute it at one input. -/
def feastTellsWrong : ChangeSpec := { name := "feastTells", fn := fun _ => fun
  | [d1, d2] => { results := [.lit (.bool false)], args := [d1, d2] }
  | _ => none }
def FeastTellsWrongFalsely : Prop := feastTellsRow.holds Try.pinned (OpenSpec.ofChange feastTellsWrong)

/-- 'newellaw05.FeastLists': WHATEVER THE INPUT: true; the input reads as it did. -/
def feastListsSpec : ChangeSpec := { name := "feastLists", fn := fun _ => fun
  | [d1, d2] => { results := [.lit (.bool true)], args := [d1, d2] }
  | _ => none }
def feastListsRow : OpenClaim := { program := "ytdjfmcomeaijgaa", sum := "b31af18dd49664c10d6b66fcb51f27e4afa741bf3bc907b2f4ed8a3ddc9ee96a", func := "newel/newellaw05.FeastLists", spec := "feastLists", unfollowed := true, recurses := true, plainKeys := false, apart := false }
def FeastListsSaid : Prop := feastListsRow.holds Try.pinned (OpenSpec.ofChange feastListsSpec)

/-- ITS FALSE NEIGHBOUR: 'it returns false'. Refute it at one input. -/
def feastListsWrong : ChangeSpec := { name := "feastLists", fn := fun _ => fun
  | [d1, d2] => { results := [.lit (.bool false)], args := [d1, d2] }
  | _ => none }
def FeastListsWrongFalsely : Prop := feastListsRow.holds Try.pinned (OpenSpec.ofChange feastListsWrong)

/-- 'newellaw05.FeastRows': WHATEVER THE INPUT: true; the input reads as it did. -/
def feastRowsSpec : ChangeSpec := { name := "feastRows", fn := fun _ => fun
  | [d1, d2] => { results := [.lit (.bool true)], args := [d1, d2] }
  | _ => none }
def feastRowsRow : OpenClaim := { program := "ytdjfmcomeaijgaa", sum := "b31af18dd49664c10d6b66fcb51f27e4afa741bf3bc907b2f4ed8a3ddc9ee96a", func := "newel/newellaw05.FeastRows", spec := "feastRows", unfollowed := true, recurses := true, plainKeys := false, apart := false }
def FeastRowsSaid : Prop := feastRowsRow.holds Try.pinned (OpenSpec.ofChange feastRowsSpec)

/-- ITS FALSE NEIGHBOUR: 'it returns false'. Refute it at one input. -/
def feastRowsWrong : ChangeSpec := { name := "feastRows", fn := fun _ => fun
  | [d1, d2] => { results := [.lit (.bool false)], args := [d1, d2] }
  | _ => none }
def FeastRowsWrongFalsely : Prop := feastRowsRow.holds Try.pinned (OpenSpec.ofChange feastRowsWrong)

/-- 'newellaw05.FeastTouch': WHATEVER THE INPUT: true; the input reads as it did. -/
def feastTouchSpec : ChangeSpec := { name := "feastTouch", fn := fun _ => fun
  | [d1, d2] => { results := [.lit (.bool true)], args := [d1, d2] }
  | _ => none }
def feastTouchRow : OpenClaim := { program := "ytdjfmcomeaijgaa", sum := "b31af18dd49664c10d6b66fcb51f27e4afa741bf3bc907b2f4ed8a3ddc9ee96a", func := "newel/newellaw05.FeastTouch", spec := "feastTouch", unfollowed := true, recurses := true, plainKeys := false, apart := false }
def FeastTouchSaid : Prop := feastTouchRow.holds Try.pinned (OpenSpec.ofChange feastTouchSpec)

/-- ITS FALSE NEIGHBOUR: 'it returns false'. Refute it at one input. -/
def feastTouchWrong : ChangeSpec := { name := "feastTouch", fn := fun _ => fun
  | [d1, d2] => { results := [.lit (.bool false)], args := [d1, d2] }
  | _ => none }
def FeastTouchWrongFalsely : Prop := feastTouchRow.holds Try.pinned (OpenSpec.ofChange feastTouchWrong)

/-- 'newellaw05.FeastAbroad': WHATEVER THE INPUT: true; the input reads as it did. -/
def feastAbroadSpec : ChangeSpec := { name := "feastAbroad", fn := fun _ => fun
  | [d] => { results := [.lit (.bool true)], args := [d] }
  | _ => none }
def feastAbroadRow : OpenClaim := { program := "ytdjfmcomeaijgaa", sum := "b31af18dd49664c10d6b66fcb51f27e4afa741bf3bc907b2f4ed8a3ddc9ee96a", func := "newel/newellaw05.FeastAbroad", spec := "feastAbroad", unfollowed := true, recurses := true, plainKeys := false, apart := false }
def FeastAbroadSaid : Prop := feastAbroadRow.holds Try.pinned (OpenSpec.ofChange feastAbroadSpec)

/-- ITS FALSE NEIGHBOUR: 'it returns false'. Refute it at one input. -/
def feastAbroadWrong : ChangeSpec := { name := "feastAbroad", fn := fun _ => fun
  | [d] => { results := [.lit (.bool false)], args := [d] }
  | _ => none }
def FeastAbroadWrongFalsely : Prop := feastAbroadRow.holds Try.pinned (OpenSpec.ofChange feastAbroadWrong)

/-- 'newellaw05.FeastAll': WHATEVER THE INPUT: true; the input reads as it did. -/
def feastAllSpec : ChangeSpec := { name := "feastAll", fn := fun _ => fun
  | [d1, d2] => { results := [.lit (.bool true)], args := [d1, d2] }
  | _ => none }
def feastAllRow : OpenClaim := { program := "ytdjfmcomeaijgaa", sum := "b31af18dd49664c10d6b66fcb51f27e4afa741bf3bc907b2f4ed8a3ddc9ee96a", func := "newel/newellaw05.FeastAll", spec := "feastAll", unfollowed := true, recurses := true, plainKeys := false, apart := false }
def FeastAllSaid : Prop := feastAllRow.holds Try.pinned (OpenSpec.ofChange feastAllSpec)

/-- ITS FALSE NEIGHBOUR: 'it returns false'. Refute it at one input. -/
def feastAllWrong : ChangeSpec := { name := "feastAll", fn := fun _ => fun
  | [d1, d2] => { results := [.lit (.bool false)], args := [d1, d2] }
  | _ => none }
def FeastAllWrongFalsely : Prop := feastAllRow.holds Try.pinned (OpenSpec.ofChange feastAllWrong)

/-- 'newellaw05.FeastWeekdays': WHATEVER THE INPUT: true; the input reads as it did. -/
def feastWeekdaysSpec : ChangeSpec := { name := "feastWeekdays", fn := fun _ => fun
  | [d] => { results := [.lit (.bool true)], args := [d] }
  | _ => none }
def feastWeekdaysRow : OpenClaim := { program := "ytdjfmcomeaijgaa", sum := "b31af18dd49664c10d6b66fcb51f27e4afa741bf3bc907b2f4ed8a3ddc9ee96a", func := "newel/newellaw05.FeastWeekdays", spec := "feastWeekdays", unfollowed := true, recurses := true, plainKeys := false, apart := false }
def FeastWeekdaysSaid : Prop := feastWeekdaysRow.holds Try.pinned (OpenSpec.ofChange feastWeekdaysSpec)

/-- ITS FALSE NEIGHBOUR: 'it returns false'. Refute it at one input. -/
def feastWeekdaysWrong : ChangeSpec := { name := "feastWeekdays", fn := fun _ => fun
  | [d] => { results := [.lit (.bool false)], args := [d] }
  | _ => none }
def FeastWeekdaysWrongFalsely : Prop := feastWeekdaysRow.holds Try.pinned (OpenSpec.ofChange feastWeekdaysWrong)

/- THE SECOND FORM. 'bulk': how many values and letters a reading holds, each counted each time it is reached (what is shared counts as often as it is met; a slice's spare places count too). A statement '..UptoSaid' is the law's where the arguments, and the package variables that the reading takes, are together of bulk at most 1048576: NARROWER than '..Said'. Prove '..Said' where nothing that the law and all that it calls make is longer than what came in: it says more and counts as full. Else prove '..UptoSaid'. A law counts once. -/
mutual
def uptoBulk {H : Type} : DataW H → Nat
  | .lit (.string bytes) => bytes.length + 1
  | .lit _ => 1
  | .nil => 1
  | .ptr d => uptoBulk d + 1
  | .slice elems spare => uptoBulkAll elems + uptoBulkAll spare + 1
  | .agg parts => uptoBulkAll parts + 1
  | .iface _ d => uptoBulk d + 1
  | .map entries => uptoBulkEntries entries + 1
  | .held _ => 1
def uptoBulkAll {H : Type} : List (DataW H) → Nat
  | [] => 0
  | d :: r => uptoBulk d + uptoBulkAll r
def uptoBulkEntries {H : Type} : List (Lit × DataW H) → Nat
  | [] => 0
  | x :: r => uptoBulkEntry x + uptoBulkEntries r
def uptoBulkEntry {H : Type} : Lit × DataW H → Nat
  | (.string bytes, d) => bytes.length + uptoBulk d + 1
  | (_, d) => uptoBulk d + 1
 end
def uptoSmall : (H : Type) → List (DataW H) → Bool := fun _ ds => decide (uptoBulkAll ds ≤ 1048576)
def OpenSpec.upto (s : _root_.Go.ChangeSpec) : _root_.Go.OpenSpec := { _root_.Go.OpenSpec.ofChange s with cond := some uptoSmall }

/-- 'newellaw03.MoladTells', WHERE WHAT IT READS IS OF BULK AT MOST 1048576: true; the input reads as it did. -/
def moladTellsUptoRow : OpenClaim := { program := "ytdjfmcomeaijgaa", sum := "b31af18dd49664c10d6b66fcb51f27e4afa741bf3bc907b2f4ed8a3ddc9ee96a", func := "newel/newellaw03.MoladTells", spec := "moladTells", unfollowed := true, recurses := true, plainKeys := false, apart := false, narrowed := true }
def MoladTellsUptoSaid : Prop := moladTellsUptoRow.holds Try.pinned (OpenSpec.upto moladTellsSpec)

/-- 'newellaw03.MoladYears', WHERE WHAT IT READS IS OF BULK AT MOST 1048576: true; the input reads as it did. -/
def moladYearsUptoRow : OpenClaim := { program := "ytdjfmcomeaijgaa", sum := "b31af18dd49664c10d6b66fcb51f27e4afa741bf3bc907b2f4ed8a3ddc9ee96a", func := "newel/newellaw03.MoladYears", spec := "moladYears", unfollowed := true, recurses := true, plainKeys := false, apart := false, narrowed := true }
def MoladYearsUptoSaid : Prop := moladYearsUptoRow.holds Try.pinned (OpenSpec.upto moladYearsSpec)

/-- 'newellaw03.MoladLens', WHERE WHAT IT READS IS OF BULK AT MOST 1048576: true; the input reads as it did. -/
def moladLensUptoRow : OpenClaim := { program := "ytdjfmcomeaijgaa", sum := "b31af18dd49664c10d6b66fcb51f27e4afa741bf3bc907b2f4ed8a3ddc9ee96a", func := "newel/newellaw03.MoladLens", spec := "moladLens", unfollowed := true, recurses := true, plainKeys := false, apart := false, narrowed := true }
def MoladLensUptoSaid : Prop := moladLensUptoRow.holds Try.pinned (OpenSpec.upto moladLensSpec)

/-- 'newellaw03.MoladStarts', WHERE WHAT IT READS IS OF BULK AT MOST 1048576: true; the input reads as it did. -/
def moladStartsUptoRow : OpenClaim := { program := "ytdjfmcomeaijgaa", sum := "b31af18dd49664c10d6b66fcb51f27e4afa741bf3bc907b2f4ed8a3ddc9ee96a", func := "newel/newellaw03.MoladStarts", spec := "moladStarts", unfollowed := true, recurses := true, plainKeys := false, apart := false, narrowed := true }
def MoladStartsUptoSaid : Prop := moladStartsUptoRow.holds Try.pinned (OpenSpec.upto moladStartsSpec)

/-- 'newellaw03.MoladRound', WHERE WHAT IT READS IS OF BULK AT MOST 1048576: true; the input reads as it did. -/
def moladRoundUptoRow : OpenClaim := { program := "ytdjfmcomeaijgaa", sum := "b31af18dd49664c10d6b66fcb51f27e4afa741bf3bc907b2f4ed8a3ddc9ee96a", func := "newel/newellaw03.MoladRound", spec := "moladRound", unfollowed := true, recurses := true, plainKeys := false, apart := false, narrowed := true }
def MoladRoundUptoSaid : Prop := moladRoundUptoRow.holds Try.pinned (OpenSpec.upto moladRoundSpec)

/-- 'newellaw03.MoladNext', WHERE WHAT IT READS IS OF BULK AT MOST 1048576: true; the input reads as it did. -/
def moladNextUptoRow : OpenClaim := { program := "ytdjfmcomeaijgaa", sum := "b31af18dd49664c10d6b66fcb51f27e4afa741bf3bc907b2f4ed8a3ddc9ee96a", func := "newel/newellaw03.MoladNext", spec := "moladNext", unfollowed := true, recurses := true, plainKeys := false, apart := false, narrowed := true }
def MoladNextUptoSaid : Prop := moladNextUptoRow.holds Try.pinned (OpenSpec.upto moladNextSpec)

/-- 'newellaw04.HebrewMonths', WHERE WHAT IT READS IS OF BULK AT MOST 1048576: true; the input reads as it did. -/
def hebrewMonthsUptoRow : OpenClaim := { program := "ytdjfmcomeaijgaa", sum := "b31af18dd49664c10d6b66fcb51f27e4afa741bf3bc907b2f4ed8a3ddc9ee96a", func := "newel/newellaw04.HebrewMonths", spec := "hebrewMonths", unfollowed := true, recurses := true, plainKeys := false, apart := false, narrowed := true }
def HebrewMonthsUptoSaid : Prop := hebrewMonthsUptoRow.holds Try.pinned (OpenSpec.upto hebrewMonthsSpec)

/-- 'newellaw04.HebrewDays', WHERE WHAT IT READS IS OF BULK AT MOST 1048576: true; the input reads as it did. -/
def hebrewDaysUptoRow : OpenClaim := { program := "ytdjfmcomeaijgaa", sum := "b31af18dd49664c10d6b66fcb51f27e4afa741bf3bc907b2f4ed8a3ddc9ee96a", func := "newel/newellaw04.HebrewDays", spec := "hebrewDays", unfollowed := true, recurses := true, plainKeys := false, apart := false, narrowed := true }
def HebrewDaysUptoSaid : Prop := hebrewDaysUptoRow.holds Try.pinned (OpenSpec.upto hebrewDaysSpec)

/-- 'newellaw04.HebrewDates', WHERE WHAT IT READS IS OF BULK AT MOST 1048576: true; the input reads as it did. -/
def hebrewDatesUptoRow : OpenClaim := { program := "ytdjfmcomeaijgaa", sum := "b31af18dd49664c10d6b66fcb51f27e4afa741bf3bc907b2f4ed8a3ddc9ee96a", func := "newel/newellaw04.HebrewDates", spec := "hebrewDates", unfollowed := true, recurses := true, plainKeys := false, apart := false, narrowed := true }
def HebrewDatesUptoSaid : Prop := hebrewDatesUptoRow.holds Try.pinned (OpenSpec.upto hebrewDatesSpec)

/-- 'newellaw04.HebrewNext', WHERE WHAT IT READS IS OF BULK AT MOST 1048576: true; the input reads as it did. -/
def hebrewNextUptoRow : OpenClaim := { program := "ytdjfmcomeaijgaa", sum := "b31af18dd49664c10d6b66fcb51f27e4afa741bf3bc907b2f4ed8a3ddc9ee96a", func := "newel/newellaw04.HebrewNext", spec := "hebrewNext", unfollowed := true, recurses := true, plainKeys := false, apart := false, narrowed := true }
def HebrewNextUptoSaid : Prop := hebrewNextUptoRow.holds Try.pinned (OpenSpec.upto hebrewNextSpec)

/-- 'newellaw04.HebrewSum', WHERE WHAT IT READS IS OF BULK AT MOST 1048576: true; the input reads as it did. -/
def hebrewSumUptoRow : OpenClaim := { program := "ytdjfmcomeaijgaa", sum := "b31af18dd49664c10d6b66fcb51f27e4afa741bf3bc907b2f4ed8a3ddc9ee96a", func := "newel/newellaw04.HebrewSum", spec := "hebrewSum", unfollowed := true, recurses := true, plainKeys := false, apart := false, narrowed := true }
def HebrewSumUptoSaid : Prop := hebrewSumUptoRow.holds Try.pinned (OpenSpec.upto hebrewSumSpec)

/-- 'newellaw04.HebrewSpring', WHERE WHAT IT READS IS OF BULK AT MOST 1048576: true; the input reads as it did. -/
def hebrewSpringUptoRow : OpenClaim := { program := "ytdjfmcomeaijgaa", sum := "b31af18dd49664c10d6b66fcb51f27e4afa741bf3bc907b2f4ed8a3ddc9ee96a", func := "newel/newellaw04.HebrewSpring", spec := "hebrewSpring", unfollowed := true, recurses := true, plainKeys := false, apart := false, narrowed := true }
def HebrewSpringUptoSaid : Prop := hebrewSpringUptoRow.holds Try.pinned (OpenSpec.upto hebrewSpringSpec)

/-- 'newellaw05.FeastTells', WHERE WHAT IT READS IS OF BULK AT MOST 1048576: true; the input reads as it did. -/
def feastTellsUptoRow : OpenClaim := { program := "ytdjfmcomeaijgaa", sum := "b31af18dd49664c10d6b66fcb51f27e4afa741bf3bc907b2f4ed8a3ddc9ee96a", func := "newel/newellaw05.FeastTells", spec := "feastTells", unfollowed := true, recurses := true, plainKeys := false, apart := false, narrowed := true }
def FeastTellsUptoSaid : Prop := feastTellsUptoRow.holds Try.pinned (OpenSpec.upto feastTellsSpec)

/-- 'newellaw05.FeastLists', WHERE WHAT IT READS IS OF BULK AT MOST 1048576: true; the input reads as it did. -/
def feastListsUptoRow : OpenClaim := { program := "ytdjfmcomeaijgaa", sum := "b31af18dd49664c10d6b66fcb51f27e4afa741bf3bc907b2f4ed8a3ddc9ee96a", func := "newel/newellaw05.FeastLists", spec := "feastLists", unfollowed := true, recurses := true, plainKeys := false, apart := false, narrowed := true }
def FeastListsUptoSaid : Prop := feastListsUptoRow.holds Try.pinned (OpenSpec.upto feastListsSpec)

/-- 'newellaw05.FeastRows', WHERE WHAT IT READS IS OF BULK AT MOST 1048576: true; the input reads as it did. -/
def feastRowsUptoRow : OpenClaim := { program := "ytdjfmcomeaijgaa", sum := "b31af18dd49664c10d6b66fcb51f27e4afa741bf3bc907b2f4ed8a3ddc9ee96a", func := "newel/newellaw05.FeastRows", spec := "feastRows", unfollowed := true, recurses := true, plainKeys := false, apart := false, narrowed := true }
def FeastRowsUptoSaid : Prop := feastRowsUptoRow.holds Try.pinned (OpenSpec.upto feastRowsSpec)

/-- 'newellaw05.FeastTouch', WHERE WHAT IT READS IS OF BULK AT MOST 1048576: true; the input reads as it did. -/
def feastTouchUptoRow : OpenClaim := { program := "ytdjfmcomeaijgaa", sum := "b31af18dd49664c10d6b66fcb51f27e4afa741bf3bc907b2f4ed8a3ddc9ee96a", func := "newel/newellaw05.FeastTouch", spec := "feastTouch", unfollowed := true, recurses := true, plainKeys := false, apart := false, narrowed := true }
def FeastTouchUptoSaid : Prop := feastTouchUptoRow.holds Try.pinned (OpenSpec.upto feastTouchSpec)

/-- 'newellaw05.FeastAbroad', WHERE WHAT IT READS IS OF BULK AT MOST 1048576: true; the input reads as it did. -/
def feastAbroadUptoRow : OpenClaim := { program := "ytdjfmcomeaijgaa", sum := "b31af18dd49664c10d6b66fcb51f27e4afa741bf3bc907b2f4ed8a3ddc9ee96a", func := "newel/newellaw05.FeastAbroad", spec := "feastAbroad", unfollowed := true, recurses := true, plainKeys := false, apart := false, narrowed := true }
def FeastAbroadUptoSaid : Prop := feastAbroadUptoRow.holds Try.pinned (OpenSpec.upto feastAbroadSpec)

/-- 'newellaw05.FeastAll', WHERE WHAT IT READS IS OF BULK AT MOST 1048576: true; the input reads as it did. -/
def feastAllUptoRow : OpenClaim := { program := "ytdjfmcomeaijgaa", sum := "b31af18dd49664c10d6b66fcb51f27e4afa741bf3bc907b2f4ed8a3ddc9ee96a", func := "newel/newellaw05.FeastAll", spec := "feastAll", unfollowed := true, recurses := true, plainKeys := false, apart := false, narrowed := true }
def FeastAllUptoSaid : Prop := feastAllUptoRow.holds Try.pinned (OpenSpec.upto feastAllSpec)

/-- 'newellaw05.FeastWeekdays', WHERE WHAT IT READS IS OF BULK AT MOST 1048576: true; the input reads as it did. -/
def feastWeekdaysUptoRow : OpenClaim := { program := "ytdjfmcomeaijgaa", sum := "b31af18dd49664c10d6b66fcb51f27e4afa741bf3bc907b2f4ed8a3ddc9ee96a", func := "newel/newellaw05.FeastWeekdays", spec := "feastWeekdays", unfollowed := true, recurses := true, plainKeys := false, apart := false, narrowed := true }
def FeastWeekdaysUptoSaid : Prop := feastWeekdaysUptoRow.holds Try.pinned (OpenSpec.upto feastWeekdaysSpec)

end Rows
end Go.Proofs.Ytdjfmcomeaijgaa
