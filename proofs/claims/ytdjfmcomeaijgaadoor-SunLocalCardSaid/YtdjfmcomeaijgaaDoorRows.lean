/-
  NARROWER THAN 'FOR EVERY INPUT', by the rows' own cells (each row's printed sentence says how): GregTells: laid · GregDates: laid · GregNths: laid · GregBack: laid · GregNext: laid · GregAges: laid · GregLast: laid · SunChecks: laid · SunTells: laid · SunMoments: laid · ZoneChecks: laid · ZoneLocals: laid · ZoneInstants: laid · ZoneBack: laid · ZoneSteps: laid · ZoneMany: laid · ZoneTurns: laid · SunLocal: laid.
  DERIVED. THE GIVEN ROWS OF THIS SEAT. 18 by the template 'for every input the law returns true; each argument reads behind the call as it read before'; 0 by the template 'total and deterministic' (their statements: YtdjfmcomeaijgaaDoorTotals.lean).
  GIVEN WITH THE SEED: the statements are not yours to turn. If you find one false, say at which input.
  Laid BY PROGRAM, IN A SANDBOX (cutbox-rows.mjs): the forced cells as the released guide's own fill.sh prints them over the translation e5dd2f469de42391… (all of the seat's roots in one cut). By AI agents, Wed Nov 11 2026. No macro, syntax, notation, axiom, sorry.
-/
import Derived.Test.YtdjfmcomeaijgaaDoorChecked
import GoSem.Claim
import GoSem.ClaimJoined
import GoSem.ClaimMapViews
import Derived.JoinedTies
import Derived.KernelRfl
namespace Go.Proofs.YtdjfmcomeaijgaaDoor
/- THE CELL 'sum', in the pinned program and in every row, IS THE sha256 OF THE DUMP (.gsa) THAT YtdjfmcomeaijgaaDoorProg.lean LOADS. Nothing in Lean hashes anything: it is a label: what it is worth is what the hold of that sum in a sandbox is worth. -/
noncomputable def Tryd.pinned : Pinned := { name := "ytdjfmcomeaijgaadoor", sum := "e5dd2f469de42391bdd4ff0ae3eec9a417f515dc57e87999edc628716de84baf", checked := Tryd.checked }
namespace Rows
def none {H : Type} : Left H := { results := [], args := [] }

/- WHAT THE LISTED PACKAGE-LEVEL VARIABLES READ AS WHEN THE CALL BEGINS. Each datum BY PROGRAM (the guide's laid-datum.mjs) off the statement by which the dump's own 'gosem.cut.vars' lays the variable. In a bare row this is a premise. The card (YtdjfmcomeaijgaaDoorCards.lean) ties it to the program's text. -/
def laid_newel_greg_lengths {H : Type} : DataW H := .agg [.lit (.int .i64 31), .lit (.int .i64 28), .lit (.int .i64 31), .lit (.int .i64 30), .lit (.int .i64 31), .lit (.int .i64 30), .lit (.int .i64 31), .lit (.int .i64 31), .lit (.int .i64 30), .lit (.int .i64 31), .lit (.int .i64 30), .lit (.int .i64 31)]

/-- 'newellaw02.GregTells': WHATEVER THE INPUT: true; the input reads as it did. -/
def gregTellsSpec : ChangeSpec := { name := "gregTells", fn := fun _ => fun
  | [d1, d2] => { results := [.lit (.bool true)], args := [d1, d2] }
  | _ => none }
def gregTellsRow : OpenClaim := { program := "ytdjfmcomeaijgaadoor", sum := "e5dd2f469de42391bdd4ff0ae3eec9a417f515dc57e87999edc628716de84baf", func := "newel/newellaw02.GregTells", spec := "gregTells", named := ["newel/greg.lengths"], apart := false, laid := [("newel/greg.lengths", laid_newel_greg_lengths)] }
def GregTellsSaid : Prop := gregTellsRow.holds Tryd.pinned (OpenSpec.ofChange gregTellsSpec)

/-- ITS FALSE NEIGHBOUR: 'it returns false'. Refute it at one input. -/
def gregTellsWrong : ChangeSpec := { name := "gregTells", fn := fun _ => fun
  | [d1, d2] => { results := [.lit (.bool false)], args := [d1, d2] }
  | _ => none }
def GregTellsWrongFalsely : Prop := gregTellsRow.holds Tryd.pinned (OpenSpec.ofChange gregTellsWrong)

/-- 'newellaw02.GregDates': WHATEVER THE INPUT: true; the input reads as it did. -/
def gregDatesSpec : ChangeSpec := { name := "gregDates", fn := fun _ => fun
  | [d] => { results := [.lit (.bool true)], args := [d] }
  | _ => none }
def gregDatesRow : OpenClaim := { program := "ytdjfmcomeaijgaadoor", sum := "e5dd2f469de42391bdd4ff0ae3eec9a417f515dc57e87999edc628716de84baf", func := "newel/newellaw02.GregDates", spec := "gregDates", named := ["newel/greg.lengths"], apart := false, laid := [("newel/greg.lengths", laid_newel_greg_lengths)] }
def GregDatesSaid : Prop := gregDatesRow.holds Tryd.pinned (OpenSpec.ofChange gregDatesSpec)

/-- ITS FALSE NEIGHBOUR: 'it returns false'. Refute it at one input. -/
def gregDatesWrong : ChangeSpec := { name := "gregDates", fn := fun _ => fun
  | [d] => { results := [.lit (.bool false)], args := [d] }
  | _ => none }
def GregDatesWrongFalsely : Prop := gregDatesRow.holds Tryd.pinned (OpenSpec.ofChange gregDatesWrong)

/-- 'newellaw02.GregNths': WHATEVER THE INPUT: true; the input reads as it did. -/
def gregNthsSpec : ChangeSpec := { name := "gregNths", fn := fun _ => fun
  | [d1, d2, d3] => { results := [.lit (.bool true)], args := [d1, d2, d3] }
  | _ => none }
def gregNthsRow : OpenClaim := { program := "ytdjfmcomeaijgaadoor", sum := "e5dd2f469de42391bdd4ff0ae3eec9a417f515dc57e87999edc628716de84baf", func := "newel/newellaw02.GregNths", spec := "gregNths", named := ["newel/greg.lengths"], apart := false, laid := [("newel/greg.lengths", laid_newel_greg_lengths)] }
def GregNthsSaid : Prop := gregNthsRow.holds Tryd.pinned (OpenSpec.ofChange gregNthsSpec)

/-- ITS FALSE NEIGHBOUR: 'it returns false'. Refute it at one input. -/
def gregNthsWrong : ChangeSpec := { name := "gregNths", fn := fun _ => fun
  | [d1, d2, d3] => { results := [.lit (.bool false)], args := [d1, d2, d3] }
  | _ => none }
def GregNthsWrongFalsely : Prop := gregNthsRow.holds Tryd.pinned (OpenSpec.ofChange gregNthsWrong)

/-- 'newellaw02.GregBack': WHATEVER THE INPUT: true; the input reads as it did. -/
def gregBackSpec : ChangeSpec := { name := "gregBack", fn := fun _ => fun
  | [d1, d2] => { results := [.lit (.bool true)], args := [d1, d2] }
  | _ => none }
def gregBackRow : OpenClaim := { program := "ytdjfmcomeaijgaadoor", sum := "e5dd2f469de42391bdd4ff0ae3eec9a417f515dc57e87999edc628716de84baf", func := "newel/newellaw02.GregBack", spec := "gregBack", named := ["newel/greg.lengths"], apart := false, laid := [("newel/greg.lengths", laid_newel_greg_lengths)] }
def GregBackSaid : Prop := gregBackRow.holds Tryd.pinned (OpenSpec.ofChange gregBackSpec)

/-- ITS FALSE NEIGHBOUR: 'it returns false'. Refute it at one input. -/
def gregBackWrong : ChangeSpec := { name := "gregBack", fn := fun _ => fun
  | [d1, d2] => { results := [.lit (.bool false)], args := [d1, d2] }
  | _ => none }
def GregBackWrongFalsely : Prop := gregBackRow.holds Tryd.pinned (OpenSpec.ofChange gregBackWrong)

/-- 'newellaw02.GregNext': WHATEVER THE INPUT: true; the input reads as it did. -/
def gregNextSpec : ChangeSpec := { name := "gregNext", fn := fun _ => fun
  | [d] => { results := [.lit (.bool true)], args := [d] }
  | _ => none }
def gregNextRow : OpenClaim := { program := "ytdjfmcomeaijgaadoor", sum := "e5dd2f469de42391bdd4ff0ae3eec9a417f515dc57e87999edc628716de84baf", func := "newel/newellaw02.GregNext", spec := "gregNext", named := ["newel/greg.lengths"], apart := false, laid := [("newel/greg.lengths", laid_newel_greg_lengths)] }
def GregNextSaid : Prop := gregNextRow.holds Tryd.pinned (OpenSpec.ofChange gregNextSpec)

/-- ITS FALSE NEIGHBOUR: 'it returns false'. Refute it at one input. -/
def gregNextWrong : ChangeSpec := { name := "gregNext", fn := fun _ => fun
  | [d] => { results := [.lit (.bool false)], args := [d] }
  | _ => none }
def GregNextWrongFalsely : Prop := gregNextRow.holds Tryd.pinned (OpenSpec.ofChange gregNextWrong)

/-- 'newellaw02.GregAges': WHATEVER THE INPUT: true; the input reads as it did. -/
def gregAgesSpec : ChangeSpec := { name := "gregAges", fn := fun _ => fun
  | [d] => { results := [.lit (.bool true)], args := [d] }
  | _ => none }
def gregAgesRow : OpenClaim := { program := "ytdjfmcomeaijgaadoor", sum := "e5dd2f469de42391bdd4ff0ae3eec9a417f515dc57e87999edc628716de84baf", func := "newel/newellaw02.GregAges", spec := "gregAges", named := ["newel/greg.lengths"], apart := false, laid := [("newel/greg.lengths", laid_newel_greg_lengths)] }
def GregAgesSaid : Prop := gregAgesRow.holds Tryd.pinned (OpenSpec.ofChange gregAgesSpec)

/-- ITS FALSE NEIGHBOUR: 'it returns false'. Refute it at one input. -/
def gregAgesWrong : ChangeSpec := { name := "gregAges", fn := fun _ => fun
  | [d] => { results := [.lit (.bool false)], args := [d] }
  | _ => none }
def GregAgesWrongFalsely : Prop := gregAgesRow.holds Tryd.pinned (OpenSpec.ofChange gregAgesWrong)

/-- 'newellaw02.GregLast': WHATEVER THE INPUT: true; the input reads as it did. -/
def gregLastSpec : ChangeSpec := { name := "gregLast", fn := fun _ => fun
  | [d1, d2] => { results := [.lit (.bool true)], args := [d1, d2] }
  | _ => none }
def gregLastRow : OpenClaim := { program := "ytdjfmcomeaijgaadoor", sum := "e5dd2f469de42391bdd4ff0ae3eec9a417f515dc57e87999edc628716de84baf", func := "newel/newellaw02.GregLast", spec := "gregLast", named := ["newel/greg.lengths"], apart := false, laid := [("newel/greg.lengths", laid_newel_greg_lengths)] }
def GregLastSaid : Prop := gregLastRow.holds Tryd.pinned (OpenSpec.ofChange gregLastSpec)

/-- ITS FALSE NEIGHBOUR: 'it returns false'. Refute it at one input. -/
def gregLastWrong : ChangeSpec := { name := "gregLast", fn := fun _ => fun
  | [d1, d2] => { results := [.lit (.bool false)], args := [d1, d2] }
  | _ => none }
def GregLastWrongFalsely : Prop := gregLastRow.holds Tryd.pinned (OpenSpec.ofChange gregLastWrong)

/-- 'newellaw07.SunChecks': WHATEVER THE INPUT: true; the input reads as it did. -/
def sunChecksSpec : ChangeSpec := { name := "sunChecks", fn := fun _ => fun
  | [d] => { results := [.lit (.bool true)], args := [d] }
  | _ => none }
def sunChecksRow : OpenClaim := { program := "ytdjfmcomeaijgaadoor", sum := "e5dd2f469de42391bdd4ff0ae3eec9a417f515dc57e87999edc628716de84baf", func := "newel/newellaw07.SunChecks", spec := "sunChecks", unfollowed := true, recurses := true, named := ["newel/greg.lengths"], apart := false, laid := [("newel/greg.lengths", laid_newel_greg_lengths)] }
def SunChecksSaid : Prop := sunChecksRow.holds Tryd.pinned (OpenSpec.ofChange sunChecksSpec)

/-- ITS FALSE NEIGHBOUR: 'it returns false'. Refute it at one input. -/
def sunChecksWrong : ChangeSpec := { name := "sunChecks", fn := fun _ => fun
  | [d] => { results := [.lit (.bool false)], args := [d] }
  | _ => none }
def SunChecksWrongFalsely : Prop := sunChecksRow.holds Tryd.pinned (OpenSpec.ofChange sunChecksWrong)

/-- 'newellaw07.SunTells': WHATEVER THE INPUT: true; the input reads as it did. -/
def sunTellsSpec : ChangeSpec := { name := "sunTells", fn := fun _ => fun
  | [d1, d2] => { results := [.lit (.bool true)], args := [d1, d2] }
  | _ => none }
def sunTellsRow : OpenClaim := { program := "ytdjfmcomeaijgaadoor", sum := "e5dd2f469de42391bdd4ff0ae3eec9a417f515dc57e87999edc628716de84baf", func := "newel/newellaw07.SunTells", spec := "sunTells", unfollowed := true, recurses := true, named := ["newel/greg.lengths"], apart := false, laid := [("newel/greg.lengths", laid_newel_greg_lengths)] }
def SunTellsSaid : Prop := sunTellsRow.holds Tryd.pinned (OpenSpec.ofChange sunTellsSpec)

/-- ITS FALSE NEIGHBOUR: 'it returns false'. Refute it at one input. -/
def sunTellsWrong : ChangeSpec := { name := "sunTells", fn := fun _ => fun
  | [d1, d2] => { results := [.lit (.bool false)], args := [d1, d2] }
  | _ => none }
def SunTellsWrongFalsely : Prop := sunTellsRow.holds Tryd.pinned (OpenSpec.ofChange sunTellsWrong)

/-- 'newellaw07.SunMoments': WHATEVER THE INPUT: true; the input reads as it did. -/
def sunMomentsSpec : ChangeSpec := { name := "sunMoments", fn := fun _ => fun
  | [d1, d2, d3] => { results := [.lit (.bool true)], args := [d1, d2, d3] }
  | _ => none }
def sunMomentsRow : OpenClaim := { program := "ytdjfmcomeaijgaadoor", sum := "e5dd2f469de42391bdd4ff0ae3eec9a417f515dc57e87999edc628716de84baf", func := "newel/newellaw07.SunMoments", spec := "sunMoments", unfollowed := true, recurses := true, named := ["newel/greg.lengths"], apart := false, laid := [("newel/greg.lengths", laid_newel_greg_lengths)] }
def SunMomentsSaid : Prop := sunMomentsRow.holds Tryd.pinned (OpenSpec.ofChange sunMomentsSpec)

/-- ITS FALSE NEIGHBOUR: 'it returns false'. Refute it at one input. -/
def sunMomentsWrong : ChangeSpec := { name := "sunMoments", fn := fun _ => fun
  | [d1, d2, d3] => { results := [.lit (.bool false)], args := [d1, d2, d3] }
  | _ => none }
def SunMomentsWrongFalsely : Prop := sunMomentsRow.holds Tryd.pinned (OpenSpec.ofChange sunMomentsWrong)

/-- 'newellaw06.ZoneChecks': WHATEVER THE INPUT: true; the input reads as it did. -/
def zoneChecksSpec : ChangeSpec := { name := "zoneChecks", fn := fun _ => fun
  | [d] => { results := [.lit (.bool true)], args := [d] }
  | _ => none }
def zoneChecksRow : OpenClaim := { program := "ytdjfmcomeaijgaadoor", sum := "e5dd2f469de42391bdd4ff0ae3eec9a417f515dc57e87999edc628716de84baf", func := "newel/newellaw06.ZoneChecks", spec := "zoneChecks", unfollowed := true, recurses := true, named := ["newel/greg.lengths"], apart := false, laid := [("newel/greg.lengths", laid_newel_greg_lengths)] }
def ZoneChecksSaid : Prop := zoneChecksRow.holds Tryd.pinned (OpenSpec.ofChange zoneChecksSpec)

/-- ITS FALSE NEIGHBOUR: 'it returns false'. Refute it at one input. -/
def zoneChecksWrong : ChangeSpec := { name := "zoneChecks", fn := fun _ => fun
  | [d] => { results := [.lit (.bool false)], args := [d] }
  | _ => none }
def ZoneChecksWrongFalsely : Prop := zoneChecksRow.holds Tryd.pinned (OpenSpec.ofChange zoneChecksWrong)

/-- 'newellaw06.ZoneLocals': WHATEVER THE INPUT: true; the input reads as it did. -/
def zoneLocalsSpec : ChangeSpec := { name := "zoneLocals", fn := fun _ => fun
  | [d1, d2] => { results := [.lit (.bool true)], args := [d1, d2] }
  | _ => none }
def zoneLocalsRow : OpenClaim := { program := "ytdjfmcomeaijgaadoor", sum := "e5dd2f469de42391bdd4ff0ae3eec9a417f515dc57e87999edc628716de84baf", func := "newel/newellaw06.ZoneLocals", spec := "zoneLocals", unfollowed := true, recurses := true, named := ["newel/greg.lengths"], apart := false, laid := [("newel/greg.lengths", laid_newel_greg_lengths)] }
def ZoneLocalsSaid : Prop := zoneLocalsRow.holds Tryd.pinned (OpenSpec.ofChange zoneLocalsSpec)

/-- ITS FALSE NEIGHBOUR: 'it returns false'. Refute it at one input. -/
def zoneLocalsWrong : ChangeSpec := { name := "zoneLocals", fn := fun _ => fun
  | [d1, d2] => { results := [.lit (.bool false)], args := [d1, d2] }
  | _ => none }
def ZoneLocalsWrongFalsely : Prop := zoneLocalsRow.holds Tryd.pinned (OpenSpec.ofChange zoneLocalsWrong)

/-- 'newellaw06.ZoneInstants': WHATEVER THE INPUT: true; the input reads as it did. -/
def zoneInstantsSpec : ChangeSpec := { name := "zoneInstants", fn := fun _ => fun
  | [d1, d2, d3] => { results := [.lit (.bool true)], args := [d1, d2, d3] }
  | _ => none }
def zoneInstantsRow : OpenClaim := { program := "ytdjfmcomeaijgaadoor", sum := "e5dd2f469de42391bdd4ff0ae3eec9a417f515dc57e87999edc628716de84baf", func := "newel/newellaw06.ZoneInstants", spec := "zoneInstants", unfollowed := true, recurses := true, named := ["newel/greg.lengths"], apart := false, laid := [("newel/greg.lengths", laid_newel_greg_lengths)] }
def ZoneInstantsSaid : Prop := zoneInstantsRow.holds Tryd.pinned (OpenSpec.ofChange zoneInstantsSpec)

/-- ITS FALSE NEIGHBOUR: 'it returns false'. Refute it at one input. -/
def zoneInstantsWrong : ChangeSpec := { name := "zoneInstants", fn := fun _ => fun
  | [d1, d2, d3] => { results := [.lit (.bool false)], args := [d1, d2, d3] }
  | _ => none }
def ZoneInstantsWrongFalsely : Prop := zoneInstantsRow.holds Tryd.pinned (OpenSpec.ofChange zoneInstantsWrong)

/-- 'newellaw06.ZoneBack': WHATEVER THE INPUT: true; the input reads as it did. -/
def zoneBackSpec : ChangeSpec := { name := "zoneBack", fn := fun _ => fun
  | [d1, d2] => { results := [.lit (.bool true)], args := [d1, d2] }
  | _ => none }
def zoneBackRow : OpenClaim := { program := "ytdjfmcomeaijgaadoor", sum := "e5dd2f469de42391bdd4ff0ae3eec9a417f515dc57e87999edc628716de84baf", func := "newel/newellaw06.ZoneBack", spec := "zoneBack", unfollowed := true, recurses := true, named := ["newel/greg.lengths"], apart := false, laid := [("newel/greg.lengths", laid_newel_greg_lengths)] }
def ZoneBackSaid : Prop := zoneBackRow.holds Tryd.pinned (OpenSpec.ofChange zoneBackSpec)

/-- ITS FALSE NEIGHBOUR: 'it returns false'. Refute it at one input. -/
def zoneBackWrong : ChangeSpec := { name := "zoneBack", fn := fun _ => fun
  | [d1, d2] => { results := [.lit (.bool false)], args := [d1, d2] }
  | _ => none }
def ZoneBackWrongFalsely : Prop := zoneBackRow.holds Tryd.pinned (OpenSpec.ofChange zoneBackWrong)

/-- 'newellaw06.ZoneSteps': WHATEVER THE INPUT: true; the input reads as it did. -/
def zoneStepsSpec : ChangeSpec := { name := "zoneSteps", fn := fun _ => fun
  | [d1, d2] => { results := [.lit (.bool true)], args := [d1, d2] }
  | _ => none }
def zoneStepsRow : OpenClaim := { program := "ytdjfmcomeaijgaadoor", sum := "e5dd2f469de42391bdd4ff0ae3eec9a417f515dc57e87999edc628716de84baf", func := "newel/newellaw06.ZoneSteps", spec := "zoneSteps", unfollowed := true, recurses := true, named := ["newel/greg.lengths"], apart := false, laid := [("newel/greg.lengths", laid_newel_greg_lengths)] }
def ZoneStepsSaid : Prop := zoneStepsRow.holds Tryd.pinned (OpenSpec.ofChange zoneStepsSpec)

/-- ITS FALSE NEIGHBOUR: 'it returns false'. Refute it at one input. -/
def zoneStepsWrong : ChangeSpec := { name := "zoneSteps", fn := fun _ => fun
  | [d1, d2] => { results := [.lit (.bool false)], args := [d1, d2] }
  | _ => none }
def ZoneStepsWrongFalsely : Prop := zoneStepsRow.holds Tryd.pinned (OpenSpec.ofChange zoneStepsWrong)

/-- 'newellaw06.ZoneMany': WHATEVER THE INPUT: true; the input reads as it did. -/
def zoneManySpec : ChangeSpec := { name := "zoneMany", fn := fun _ => fun
  | [d1, d2, d3] => { results := [.lit (.bool true)], args := [d1, d2, d3] }
  | _ => none }
def zoneManyRow : OpenClaim := { program := "ytdjfmcomeaijgaadoor", sum := "e5dd2f469de42391bdd4ff0ae3eec9a417f515dc57e87999edc628716de84baf", func := "newel/newellaw06.ZoneMany", spec := "zoneMany", unfollowed := true, recurses := true, named := ["newel/greg.lengths"], apart := false, laid := [("newel/greg.lengths", laid_newel_greg_lengths)] }
def ZoneManySaid : Prop := zoneManyRow.holds Tryd.pinned (OpenSpec.ofChange zoneManySpec)

/-- ITS FALSE NEIGHBOUR: 'it returns false'. Refute it at one input. -/
def zoneManyWrong : ChangeSpec := { name := "zoneMany", fn := fun _ => fun
  | [d1, d2, d3] => { results := [.lit (.bool false)], args := [d1, d2, d3] }
  | _ => none }
def ZoneManyWrongFalsely : Prop := zoneManyRow.holds Tryd.pinned (OpenSpec.ofChange zoneManyWrong)

/-- 'newellaw06.ZoneTurns': WHATEVER THE INPUT: true; the input reads as it did. -/
def zoneTurnsSpec : ChangeSpec := { name := "zoneTurns", fn := fun _ => fun
  | [d1, d2] => { results := [.lit (.bool true)], args := [d1, d2] }
  | _ => none }
def zoneTurnsRow : OpenClaim := { program := "ytdjfmcomeaijgaadoor", sum := "e5dd2f469de42391bdd4ff0ae3eec9a417f515dc57e87999edc628716de84baf", func := "newel/newellaw06.ZoneTurns", spec := "zoneTurns", unfollowed := true, recurses := true, named := ["newel/greg.lengths"], apart := false, laid := [("newel/greg.lengths", laid_newel_greg_lengths)] }
def ZoneTurnsSaid : Prop := zoneTurnsRow.holds Tryd.pinned (OpenSpec.ofChange zoneTurnsSpec)

/-- ITS FALSE NEIGHBOUR: 'it returns false'. Refute it at one input. -/
def zoneTurnsWrong : ChangeSpec := { name := "zoneTurns", fn := fun _ => fun
  | [d1, d2] => { results := [.lit (.bool false)], args := [d1, d2] }
  | _ => none }
def ZoneTurnsWrongFalsely : Prop := zoneTurnsRow.holds Tryd.pinned (OpenSpec.ofChange zoneTurnsWrong)

/-- 'newellaw07.SunLocal': WHATEVER THE INPUT: true; the input reads as it did. -/
def sunLocalSpec : ChangeSpec := { name := "sunLocal", fn := fun _ => fun
  | [d1, d2, d3] => { results := [.lit (.bool true)], args := [d1, d2, d3] }
  | _ => none }
def sunLocalRow : OpenClaim := { program := "ytdjfmcomeaijgaadoor", sum := "e5dd2f469de42391bdd4ff0ae3eec9a417f515dc57e87999edc628716de84baf", func := "newel/newellaw07.SunLocal", spec := "sunLocal", unfollowed := true, recurses := true, named := ["newel/greg.lengths"], apart := false, laid := [("newel/greg.lengths", laid_newel_greg_lengths)] }
def SunLocalSaid : Prop := sunLocalRow.holds Tryd.pinned (OpenSpec.ofChange sunLocalSpec)

/-- ITS FALSE NEIGHBOUR: 'it returns false'. Refute it at one input. -/
def sunLocalWrong : ChangeSpec := { name := "sunLocal", fn := fun _ => fun
  | [d1, d2, d3] => { results := [.lit (.bool false)], args := [d1, d2, d3] }
  | _ => none }
def SunLocalWrongFalsely : Prop := sunLocalRow.holds Tryd.pinned (OpenSpec.ofChange sunLocalWrong)

/- THE SECOND FORM. 'bulk': how many values and letters a reading holds, each counted each time it is reached (what is shared counts as often as it is met; a slice's spare places count too). A statement '..UptoSaid' is the law's where the arguments, and the package variables that the reading takes, are together of bulk at most 1048576: NARROWER than '..Said'. Prove '..Said' where nothing that the law and all that it calls make is longer than what came in: it says more and counts as full. Else prove '..UptoSaid'. A law counts once. -/
mutual
def uptoBulk {H : Type} : DataW H → Nat
  | .lit (.string bytes) => bytes.length + 1
  | .lit _ => 1
  | .nil => 1
  | .ptr d => uptoBulk d + 1
  | .slice elems spare => uptoBulkAll elems + uptoBulkAll spare + 1
  | .agg parts => uptoBulkAll parts + 1
  | .iface _ d => uptoBulk d + 1
  | .map entries => uptoBulkEntries entries + 1
  | .held _ => 1
def uptoBulkAll {H : Type} : List (DataW H) → Nat
  | [] => 0
  | d :: r => uptoBulk d + uptoBulkAll r
def uptoBulkEntries {H : Type} : List (Lit × DataW H) → Nat
  | [] => 0
  | x :: r => uptoBulkEntry x + uptoBulkEntries r
def uptoBulkEntry {H : Type} : Lit × DataW H → Nat
  | (.string bytes, d) => bytes.length + uptoBulk d + 1
  | (_, d) => uptoBulk d + 1
 end
def uptoSmall : (H : Type) → List (DataW H) → Bool := fun _ ds => decide (uptoBulkAll ds ≤ 1048576)
def OpenSpec.upto (s : _root_.Go.ChangeSpec) : _root_.Go.OpenSpec := { _root_.Go.OpenSpec.ofChange s with cond := some uptoSmall }

/-- 'newellaw02.GregTells', WHERE WHAT IT READS IS OF BULK AT MOST 1048576: true; the input reads as it did. -/
def gregTellsUptoRow : OpenClaim := { program := "ytdjfmcomeaijgaadoor", sum := "e5dd2f469de42391bdd4ff0ae3eec9a417f515dc57e87999edc628716de84baf", func := "newel/newellaw02.GregTells", spec := "gregTells", named := ["newel/greg.lengths"], apart := false, laid := [("newel/greg.lengths", laid_newel_greg_lengths)], narrowed := true }
def GregTellsUptoSaid : Prop := gregTellsUptoRow.holds Tryd.pinned (OpenSpec.upto gregTellsSpec)

/-- 'newellaw02.GregDates', WHERE WHAT IT READS IS OF BULK AT MOST 1048576: true; the input reads as it did. -/
def gregDatesUptoRow : OpenClaim := { program := "ytdjfmcomeaijgaadoor", sum := "e5dd2f469de42391bdd4ff0ae3eec9a417f515dc57e87999edc628716de84baf", func := "newel/newellaw02.GregDates", spec := "gregDates", named := ["newel/greg.lengths"], apart := false, laid := [("newel/greg.lengths", laid_newel_greg_lengths)], narrowed := true }
def GregDatesUptoSaid : Prop := gregDatesUptoRow.holds Tryd.pinned (OpenSpec.upto gregDatesSpec)

/-- 'newellaw02.GregNths', WHERE WHAT IT READS IS OF BULK AT MOST 1048576: true; the input reads as it did. -/
def gregNthsUptoRow : OpenClaim := { program := "ytdjfmcomeaijgaadoor", sum := "e5dd2f469de42391bdd4ff0ae3eec9a417f515dc57e87999edc628716de84baf", func := "newel/newellaw02.GregNths", spec := "gregNths", named := ["newel/greg.lengths"], apart := false, laid := [("newel/greg.lengths", laid_newel_greg_lengths)], narrowed := true }
def GregNthsUptoSaid : Prop := gregNthsUptoRow.holds Tryd.pinned (OpenSpec.upto gregNthsSpec)

/-- 'newellaw02.GregBack', WHERE WHAT IT READS IS OF BULK AT MOST 1048576: true; the input reads as it did. -/
def gregBackUptoRow : OpenClaim := { program := "ytdjfmcomeaijgaadoor", sum := "e5dd2f469de42391bdd4ff0ae3eec9a417f515dc57e87999edc628716de84baf", func := "newel/newellaw02.GregBack", spec := "gregBack", named := ["newel/greg.lengths"], apart := false, laid := [("newel/greg.lengths", laid_newel_greg_lengths)], narrowed := true }
def GregBackUptoSaid : Prop := gregBackUptoRow.holds Tryd.pinned (OpenSpec.upto gregBackSpec)

/-- 'newellaw02.GregNext', WHERE WHAT IT READS IS OF BULK AT MOST 1048576: true; the input reads as it did. -/
def gregNextUptoRow : OpenClaim := { program := "ytdjfmcomeaijgaadoor", sum := "e5dd2f469de42391bdd4ff0ae3eec9a417f515dc57e87999edc628716de84baf", func := "newel/newellaw02.GregNext", spec := "gregNext", named := ["newel/greg.lengths"], apart := false, laid := [("newel/greg.lengths", laid_newel_greg_lengths)], narrowed := true }
def GregNextUptoSaid : Prop := gregNextUptoRow.holds Tryd.pinned (OpenSpec.upto gregNextSpec)

/-- 'newellaw02.GregAges', WHERE WHAT IT READS IS OF BULK AT MOST 1048576: true; the input reads as it did. -/
def gregAgesUptoRow : OpenClaim := { program := "ytdjfmcomeaijgaadoor", sum := "e5dd2f469de42391bdd4ff0ae3eec9a417f515dc57e87999edc628716de84baf", func := "newel/newellaw02.GregAges", spec := "gregAges", named := ["newel/greg.lengths"], apart := false, laid := [("newel/greg.lengths", laid_newel_greg_lengths)], narrowed := true }
def GregAgesUptoSaid : Prop := gregAgesUptoRow.holds Tryd.pinned (OpenSpec.upto gregAgesSpec)

/-- 'newellaw02.GregLast', WHERE WHAT IT READS IS OF BULK AT MOST 1048576: true; the input reads as it did. -/
def gregLastUptoRow : OpenClaim := { program := "ytdjfmcomeaijgaadoor", sum := "e5dd2f469de42391bdd4ff0ae3eec9a417f515dc57e87999edc628716de84baf", func := "newel/newellaw02.GregLast", spec := "gregLast", named := ["newel/greg.lengths"], apart := false, laid := [("newel/greg.lengths", laid_newel_greg_lengths)], narrowed := true }
def GregLastUptoSaid : Prop := gregLastUptoRow.holds Tryd.pinned (OpenSpec.upto gregLastSpec)

/-- 'newellaw07.SunChecks', WHERE WHAT IT READS IS OF BULK AT MOST 1048576: true; the input reads as it did. -/
def sunChecksUptoRow : OpenClaim := { program := "ytdjfmcomeaijgaadoor", sum := "e5dd2f469de42391bdd4ff0ae3eec9a417f515dc57e87999edc628716de84baf", func := "newel/newellaw07.SunChecks", spec := "sunChecks", unfollowed := true, recurses := true, named := ["newel/greg.lengths"], apart := false, laid := [("newel/greg.lengths", laid_newel_greg_lengths)], narrowed := true }
def SunChecksUptoSaid : Prop := sunChecksUptoRow.holds Tryd.pinned (OpenSpec.upto sunChecksSpec)

/-- 'newellaw07.SunTells', WHERE WHAT IT READS IS OF BULK AT MOST 1048576: true; the input reads as it did. -/
def sunTellsUptoRow : OpenClaim := { program := "ytdjfmcomeaijgaadoor", sum := "e5dd2f469de42391bdd4ff0ae3eec9a417f515dc57e87999edc628716de84baf", func := "newel/newellaw07.SunTells", spec := "sunTells", unfollowed := true, recurses := true, named := ["newel/greg.lengths"], apart := false, laid := [("newel/greg.lengths", laid_newel_greg_lengths)], narrowed := true }
def SunTellsUptoSaid : Prop := sunTellsUptoRow.holds Tryd.pinned (OpenSpec.upto sunTellsSpec)

/-- 'newellaw07.SunMoments', WHERE WHAT IT READS IS OF BULK AT MOST 1048576: true; the input reads as it did. -/
def sunMomentsUptoRow : OpenClaim := { program := "ytdjfmcomeaijgaadoor", sum := "e5dd2f469de42391bdd4ff0ae3eec9a417f515dc57e87999edc628716de84baf", func := "newel/newellaw07.SunMoments", spec := "sunMoments", unfollowed := true, recurses := true, named := ["newel/greg.lengths"], apart := false, laid := [("newel/greg.lengths", laid_newel_greg_lengths)], narrowed := true }
def SunMomentsUptoSaid : Prop := sunMomentsUptoRow.holds Tryd.pinned (OpenSpec.upto sunMomentsSpec)

/-- 'newellaw06.ZoneChecks', WHERE WHAT IT READS IS OF BULK AT MOST 1048576: true; the input reads as it did. -/
def zoneChecksUptoRow : OpenClaim := { program := "ytdjfmcomeaijgaadoor", sum := "e5dd2f469de42391bdd4ff0ae3eec9a417f515dc57e87999edc628716de84baf", func := "newel/newellaw06.ZoneChecks", spec := "zoneChecks", unfollowed := true, recurses := true, named := ["newel/greg.lengths"], apart := false, laid := [("newel/greg.lengths", laid_newel_greg_lengths)], narrowed := true }
def ZoneChecksUptoSaid : Prop := zoneChecksUptoRow.holds Tryd.pinned (OpenSpec.upto zoneChecksSpec)

/-- 'newellaw06.ZoneLocals', WHERE WHAT IT READS IS OF BULK AT MOST 1048576: true; the input reads as it did. -/
def zoneLocalsUptoRow : OpenClaim := { program := "ytdjfmcomeaijgaadoor", sum := "e5dd2f469de42391bdd4ff0ae3eec9a417f515dc57e87999edc628716de84baf", func := "newel/newellaw06.ZoneLocals", spec := "zoneLocals", unfollowed := true, recurses := true, named := ["newel/greg.lengths"], apart := false, laid := [("newel/greg.lengths", laid_newel_greg_lengths)], narrowed := true }
def ZoneLocalsUptoSaid : Prop := zoneLocalsUptoRow.holds Tryd.pinned (OpenSpec.upto zoneLocalsSpec)

/-- 'newellaw06.ZoneInstants', WHERE WHAT IT READS IS OF BULK AT MOST 1048576: true; the input reads as it did. -/
def zoneInstantsUptoRow : OpenClaim := { program := "ytdjfmcomeaijgaadoor", sum := "e5dd2f469de42391bdd4ff0ae3eec9a417f515dc57e87999edc628716de84baf", func := "newel/newellaw06.ZoneInstants", spec := "zoneInstants", unfollowed := true, recurses := true, named := ["newel/greg.lengths"], apart := false, laid := [("newel/greg.lengths", laid_newel_greg_lengths)], narrowed := true }
def ZoneInstantsUptoSaid : Prop := zoneInstantsUptoRow.holds Tryd.pinned (OpenSpec.upto zoneInstantsSpec)

/-- 'newellaw06.ZoneBack', WHERE WHAT IT READS IS OF BULK AT MOST 1048576: true; the input reads as it did. -/
def zoneBackUptoRow : OpenClaim := { program := "ytdjfmcomeaijgaadoor", sum := "e5dd2f469de42391bdd4ff0ae3eec9a417f515dc57e87999edc628716de84baf", func := "newel/newellaw06.ZoneBack", spec := "zoneBack", unfollowed := true, recurses := true, named := ["newel/greg.lengths"], apart := false, laid := [("newel/greg.lengths", laid_newel_greg_lengths)], narrowed := true }
def ZoneBackUptoSaid : Prop := zoneBackUptoRow.holds Tryd.pinned (OpenSpec.upto zoneBackSpec)

/-- 'newellaw06.ZoneSteps', WHERE WHAT IT READS IS OF BULK AT MOST 1048576: true; the input reads as it did. -/
def zoneStepsUptoRow : OpenClaim := { program := "ytdjfmcomeaijgaadoor", sum := "e5dd2f469de42391bdd4ff0ae3eec9a417f515dc57e87999edc628716de84baf", func := "newel/newellaw06.ZoneSteps", spec := "zoneSteps", unfollowed := true, recurses := true, named := ["newel/greg.lengths"], apart := false, laid := [("newel/greg.lengths", laid_newel_greg_lengths)], narrowed := true }
def ZoneStepsUptoSaid : Prop := zoneStepsUptoRow.holds Tryd.pinned (OpenSpec.upto zoneStepsSpec)

/-- 'newellaw06.ZoneMany', WHERE WHAT IT READS IS OF BULK AT MOST 1048576: true; the input reads as it did. -/
def zoneManyUptoRow : OpenClaim := { program := "ytdjfmcomeaijgaadoor", sum := "e5dd2f469de42391bdd4ff0ae3eec9a417f515dc57e87999edc628716de84baf", func := "newel/newellaw06.ZoneMany", spec := "zoneMany", unfollowed := true, recurses := true, named := ["newel/greg.lengths"], apart := false, laid := [("newel/greg.lengths", laid_newel_greg_lengths)], narrowed := true }
def ZoneManyUptoSaid : Prop := zoneManyUptoRow.holds Tryd.pinned (OpenSpec.upto zoneManySpec)

/-- 'newellaw06.ZoneTurns', WHERE WHAT IT READS IS OF BULK AT MOST 1048576: true; the input reads as it did. -/
def zoneTurnsUptoRow : OpenClaim := { program := "ytdjfmcomeaijgaadoor", sum := "e5dd2f469de42391bdd4ff0ae3eec9a417f515dc57e87999edc628716de84baf", func := "newel/newellaw06.ZoneTurns", spec := "zoneTurns", unfollowed := true, recurses := true, named := ["newel/greg.lengths"], apart := false, laid := [("newel/greg.lengths", laid_newel_greg_lengths)], narrowed := true }
def ZoneTurnsUptoSaid : Prop := zoneTurnsUptoRow.holds Tryd.pinned (OpenSpec.upto zoneTurnsSpec)

/-- 'newellaw07.SunLocal', WHERE WHAT IT READS IS OF BULK AT MOST 1048576: true; the input reads as it did. -/
def sunLocalUptoRow : OpenClaim := { program := "ytdjfmcomeaijgaadoor", sum := "e5dd2f469de42391bdd4ff0ae3eec9a417f515dc57e87999edc628716de84baf", func := "newel/newellaw07.SunLocal", spec := "sunLocal", unfollowed := true, recurses := true, named := ["newel/greg.lengths"], apart := false, laid := [("newel/greg.lengths", laid_newel_greg_lengths)], narrowed := true }
def SunLocalUptoSaid : Prop := sunLocalUptoRow.holds Tryd.pinned (OpenSpec.upto sunLocalSpec)

end Rows
end Go.Proofs.YtdjfmcomeaijgaaDoor
