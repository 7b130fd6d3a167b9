/-
  DERIVED. GIVEN WITH THE SEED: THE CARDS: each row of YtdjfmcomeaijgaaDoorRows.lean that lists a variable, with what it lists TIED to the program's text (the seventh form; the later family's looks); each row that meets fmt, with fmt's text TOLD by the authors' own Lean function (tested against real Go, not proved from fmt's source: count such statements apart). THE CARD IS WHAT COUNTS. Prove the row's statement (the work); the ties are given (YtdjfmcomeaijgaaDoorTie.lean); close each card by the builder's one call (the guide's Derived/Test/ToyasCard.lean, 'card_holds'). Laid BY PROGRAM, IN A SANDBOX (cutbox-door.mjs). By AI agents, Wed Nov 11 2026. No macro, syntax, notation, axiom, sorry.
-/
import Derived.Test.YtdjfmcomeaijgaaDoorRows
import GoSem.ClaimSeven
namespace Go.Proofs.YtdjfmcomeaijgaaDoor
namespace Rows

/-- THE TIED CARD OF 'newellaw02.GregTells'. -/
def gregTellsCard : Claim7 := { stood := { row := gregTellsRow, standIns := [], harness := (true, "8b6381c584169ccba40e0e506565be0d459bab5bc6271301227f3cc91a773030"), looks := false }, kinds := [], alts := [], laidByText := true, laidKinds := [.data], laidTests := true, laidLooks := .later }
def GregTellsCardSaid : Prop := Claim7.holds Tryd.pinned (.plain (OpenSpec.ofChange gregTellsSpec)) gregTellsCard

/-- THE TIED CARD OF 'newellaw02.GregDates'. -/
def gregDatesCard : Claim7 := { stood := { row := gregDatesRow, standIns := [], harness := (true, "8b6381c584169ccba40e0e506565be0d459bab5bc6271301227f3cc91a773030"), looks := false }, kinds := [], alts := [], laidByText := true, laidKinds := [.data], laidTests := true, laidLooks := .later }
def GregDatesCardSaid : Prop := Claim7.holds Tryd.pinned (.plain (OpenSpec.ofChange gregDatesSpec)) gregDatesCard

/-- THE TIED CARD OF 'newellaw02.GregNths'. -/
def gregNthsCard : Claim7 := { stood := { row := gregNthsRow, standIns := [], harness := (true, "8b6381c584169ccba40e0e506565be0d459bab5bc6271301227f3cc91a773030"), looks := false }, kinds := [], alts := [], laidByText := true, laidKinds := [.data], laidTests := true, laidLooks := .later }
def GregNthsCardSaid : Prop := Claim7.holds Tryd.pinned (.plain (OpenSpec.ofChange gregNthsSpec)) gregNthsCard

/-- THE TIED CARD OF 'newellaw02.GregBack'. -/
def gregBackCard : Claim7 := { stood := { row := gregBackRow, standIns := [], harness := (true, "8b6381c584169ccba40e0e506565be0d459bab5bc6271301227f3cc91a773030"), looks := false }, kinds := [], alts := [], laidByText := true, laidKinds := [.data], laidTests := true, laidLooks := .later }
def GregBackCardSaid : Prop := Claim7.holds Tryd.pinned (.plain (OpenSpec.ofChange gregBackSpec)) gregBackCard

/-- THE TIED CARD OF 'newellaw02.GregNext'. -/
def gregNextCard : Claim7 := { stood := { row := gregNextRow, standIns := [], harness := (true, "8b6381c584169ccba40e0e506565be0d459bab5bc6271301227f3cc91a773030"), looks := false }, kinds := [], alts := [], laidByText := true, laidKinds := [.data], laidTests := true, laidLooks := .later }
def GregNextCardSaid : Prop := Claim7.holds Tryd.pinned (.plain (OpenSpec.ofChange gregNextSpec)) gregNextCard

/-- THE TIED CARD OF 'newellaw02.GregAges'. -/
def gregAgesCard : Claim7 := { stood := { row := gregAgesRow, standIns := [], harness := (true, "8b6381c584169ccba40e0e506565be0d459bab5bc6271301227f3cc91a773030"), looks := false }, kinds := [], alts := [], laidByText := true, laidKinds := [.data], laidTests := true, laidLooks := .later }
def GregAgesCardSaid : Prop := Claim7.holds Tryd.pinned (.plain (OpenSpec.ofChange gregAgesSpec)) gregAgesCard

/-- THE TIED CARD OF 'newellaw02.GregLast'. -/
def gregLastCard : Claim7 := { stood := { row := gregLastRow, standIns := [], harness := (true, "8b6381c584169ccba40e0e506565be0d459bab5bc6271301227f3cc91a773030"), looks := false }, kinds := [], alts := [], laidByText := true, laidKinds := [.data], laidTests := true, laidLooks := .later }
def GregLastCardSaid : Prop := Claim7.holds Tryd.pinned (.plain (OpenSpec.ofChange gregLastSpec)) gregLastCard

/-- THE TIED CARD OF 'newellaw07.SunChecks'. -/
def sunChecksCard : Claim7 := { stood := { row := sunChecksRow, standIns := [], harness := (true, "8b6381c584169ccba40e0e506565be0d459bab5bc6271301227f3cc91a773030"), looks := false }, kinds := [], alts := [], laidByText := true, laidKinds := [.data], laidTests := true, laidLooks := .later }
def SunChecksCardSaid : Prop := Claim7.holds Tryd.pinned (.plain (OpenSpec.ofChange sunChecksSpec)) sunChecksCard

/-- THE TIED CARD OF 'newellaw07.SunTells'. -/
def sunTellsCard : Claim7 := { stood := { row := sunTellsRow, standIns := [], harness := (true, "8b6381c584169ccba40e0e506565be0d459bab5bc6271301227f3cc91a773030"), looks := false }, kinds := [], alts := [], laidByText := true, laidKinds := [.data], laidTests := true, laidLooks := .later }
def SunTellsCardSaid : Prop := Claim7.holds Tryd.pinned (.plain (OpenSpec.ofChange sunTellsSpec)) sunTellsCard

/-- THE TIED CARD OF 'newellaw07.SunMoments'. -/
def sunMomentsCard : Claim7 := { stood := { row := sunMomentsRow, standIns := [], harness := (true, "8b6381c584169ccba40e0e506565be0d459bab5bc6271301227f3cc91a773030"), looks := false }, kinds := [], alts := [], laidByText := true, laidKinds := [.data], laidTests := true, laidLooks := .later }
def SunMomentsCardSaid : Prop := Claim7.holds Tryd.pinned (.plain (OpenSpec.ofChange sunMomentsSpec)) sunMomentsCard

/-- THE TIED CARD OF 'newellaw06.ZoneChecks'. -/
def zoneChecksCard : Claim7 := { stood := { row := zoneChecksRow, standIns := [], harness := (true, "8b6381c584169ccba40e0e506565be0d459bab5bc6271301227f3cc91a773030"), looks := false }, kinds := [], alts := [], laidByText := true, laidKinds := [.data], laidTests := true, laidLooks := .later }
def ZoneChecksCardSaid : Prop := Claim7.holds Tryd.pinned (.plain (OpenSpec.ofChange zoneChecksSpec)) zoneChecksCard

/-- THE TIED CARD OF 'newellaw06.ZoneLocals'. -/
def zoneLocalsCard : Claim7 := { stood := { row := zoneLocalsRow, standIns := [], harness := (true, "8b6381c584169ccba40e0e506565be0d459bab5bc6271301227f3cc91a773030"), looks := false }, kinds := [], alts := [], laidByText := true, laidKinds := [.data], laidTests := true, laidLooks := .later }
def ZoneLocalsCardSaid : Prop := Claim7.holds Tryd.pinned (.plain (OpenSpec.ofChange zoneLocalsSpec)) zoneLocalsCard

/-- THE TIED CARD OF 'newellaw06.ZoneInstants'. -/
def zoneInstantsCard : Claim7 := { stood := { row := zoneInstantsRow, standIns := [], harness := (true, "8b6381c584169ccba40e0e506565be0d459bab5bc6271301227f3cc91a773030"), looks := false }, kinds := [], alts := [], laidByText := true, laidKinds := [.data], laidTests := true, laidLooks := .later }
def ZoneInstantsCardSaid : Prop := Claim7.holds Tryd.pinned (.plain (OpenSpec.ofChange zoneInstantsSpec)) zoneInstantsCard

/-- THE TIED CARD OF 'newellaw06.ZoneBack'. -/
def zoneBackCard : Claim7 := { stood := { row := zoneBackRow, standIns := [], harness := (true, "8b6381c584169ccba40e0e506565be0d459bab5bc6271301227f3cc91a773030"), looks := false }, kinds := [], alts := [], laidByText := true, laidKinds := [.data], laidTests := true, laidLooks := .later }
def ZoneBackCardSaid : Prop := Claim7.holds Tryd.pinned (.plain (OpenSpec.ofChange zoneBackSpec)) zoneBackCard

/-- THE TIED CARD OF 'newellaw06.ZoneSteps'. -/
def zoneStepsCard : Claim7 := { stood := { row := zoneStepsRow, standIns := [], harness := (true, "8b6381c584169ccba40e0e506565be0d459bab5bc6271301227f3cc91a773030"), looks := false }, kinds := [], alts := [], laidByText := true, laidKinds := [.data], laidTests := true, laidLooks := .later }
def ZoneStepsCardSaid : Prop := Claim7.holds Tryd.pinned (.plain (OpenSpec.ofChange zoneStepsSpec)) zoneStepsCard

/-- THE TIED CARD OF 'newellaw06.ZoneMany'. -/
def zoneManyCard : Claim7 := { stood := { row := zoneManyRow, standIns := [], harness := (true, "8b6381c584169ccba40e0e506565be0d459bab5bc6271301227f3cc91a773030"), looks := false }, kinds := [], alts := [], laidByText := true, laidKinds := [.data], laidTests := true, laidLooks := .later }
def ZoneManyCardSaid : Prop := Claim7.holds Tryd.pinned (.plain (OpenSpec.ofChange zoneManySpec)) zoneManyCard

/-- THE TIED CARD OF 'newellaw06.ZoneTurns'. -/
def zoneTurnsCard : Claim7 := { stood := { row := zoneTurnsRow, standIns := [], harness := (true, "8b6381c584169ccba40e0e506565be0d459bab5bc6271301227f3cc91a773030"), looks := false }, kinds := [], alts := [], laidByText := true, laidKinds := [.data], laidTests := true, laidLooks := .later }
def ZoneTurnsCardSaid : Prop := Claim7.holds Tryd.pinned (.plain (OpenSpec.ofChange zoneTurnsSpec)) zoneTurnsCard

/-- THE TIED CARD OF 'newellaw07.SunLocal'. -/
def sunLocalCard : Claim7 := { stood := { row := sunLocalRow, standIns := [], harness := (true, "8b6381c584169ccba40e0e506565be0d459bab5bc6271301227f3cc91a773030"), looks := false }, kinds := [], alts := [], laidByText := true, laidKinds := [.data], laidTests := true, laidLooks := .later }
def SunLocalCardSaid : Prop := Claim7.holds Tryd.pinned (.plain (OpenSpec.ofChange sunLocalSpec)) sunLocalCard

/-- THE SECOND FORM's CARD OF 'newellaw02.GregTells'. -/
def gregTellsUptoCard : Claim7 := { stood := { row := gregTellsUptoRow, standIns := [], harness := (true, "8b6381c584169ccba40e0e506565be0d459bab5bc6271301227f3cc91a773030"), looks := false }, kinds := [], alts := [], laidByText := true, laidKinds := [.data], laidTests := true, laidLooks := .later }
def GregTellsUptoCardSaid : Prop := Claim7.holds Tryd.pinned (.plain (OpenSpec.upto gregTellsSpec)) gregTellsUptoCard

/-- THE SECOND FORM's CARD OF 'newellaw02.GregDates'. -/
def gregDatesUptoCard : Claim7 := { stood := { row := gregDatesUptoRow, standIns := [], harness := (true, "8b6381c584169ccba40e0e506565be0d459bab5bc6271301227f3cc91a773030"), looks := false }, kinds := [], alts := [], laidByText := true, laidKinds := [.data], laidTests := true, laidLooks := .later }
def GregDatesUptoCardSaid : Prop := Claim7.holds Tryd.pinned (.plain (OpenSpec.upto gregDatesSpec)) gregDatesUptoCard

/-- THE SECOND FORM's CARD OF 'newellaw02.GregNths'. -/
def gregNthsUptoCard : Claim7 := { stood := { row := gregNthsUptoRow, standIns := [], harness := (true, "8b6381c584169ccba40e0e506565be0d459bab5bc6271301227f3cc91a773030"), looks := false }, kinds := [], alts := [], laidByText := true, laidKinds := [.data], laidTests := true, laidLooks := .later }
def GregNthsUptoCardSaid : Prop := Claim7.holds Tryd.pinned (.plain (OpenSpec.upto gregNthsSpec)) gregNthsUptoCard

/-- THE SECOND FORM's CARD OF 'newellaw02.GregBack'. -/
def gregBackUptoCard : Claim7 := { stood := { row := gregBackUptoRow, standIns := [], harness := (true, "8b6381c584169ccba40e0e506565be0d459bab5bc6271301227f3cc91a773030"), looks := false }, kinds := [], alts := [], laidByText := true, laidKinds := [.data], laidTests := true, laidLooks := .later }
def GregBackUptoCardSaid : Prop := Claim7.holds Tryd.pinned (.plain (OpenSpec.upto gregBackSpec)) gregBackUptoCard

/-- THE SECOND FORM's CARD OF 'newellaw02.GregNext'. -/
def gregNextUptoCard : Claim7 := { stood := { row := gregNextUptoRow, standIns := [], harness := (true, "8b6381c584169ccba40e0e506565be0d459bab5bc6271301227f3cc91a773030"), looks := false }, kinds := [], alts := [], laidByText := true, laidKinds := [.data], laidTests := true, laidLooks := .later }
def GregNextUptoCardSaid : Prop := Claim7.holds Tryd.pinned (.plain (OpenSpec.upto gregNextSpec)) gregNextUptoCard

/-- THE SECOND FORM's CARD OF 'newellaw02.GregAges'. -/
def gregAgesUptoCard : Claim7 := { stood := { row := gregAgesUptoRow, standIns := [], harness := (true, "8b6381c584169ccba40e0e506565be0d459bab5bc6271301227f3cc91a773030"), looks := false }, kinds := [], alts := [], laidByText := true, laidKinds := [.data], laidTests := true, laidLooks := .later }
def GregAgesUptoCardSaid : Prop := Claim7.holds Tryd.pinned (.plain (OpenSpec.upto gregAgesSpec)) gregAgesUptoCard

/-- THE SECOND FORM's CARD OF 'newellaw02.GregLast'. -/
def gregLastUptoCard : Claim7 := { stood := { row := gregLastUptoRow, standIns := [], harness := (true, "8b6381c584169ccba40e0e506565be0d459bab5bc6271301227f3cc91a773030"), looks := false }, kinds := [], alts := [], laidByText := true, laidKinds := [.data], laidTests := true, laidLooks := .later }
def GregLastUptoCardSaid : Prop := Claim7.holds Tryd.pinned (.plain (OpenSpec.upto gregLastSpec)) gregLastUptoCard

/-- THE SECOND FORM's CARD OF 'newellaw07.SunChecks'. -/
def sunChecksUptoCard : Claim7 := { stood := { row := sunChecksUptoRow, standIns := [], harness := (true, "8b6381c584169ccba40e0e506565be0d459bab5bc6271301227f3cc91a773030"), looks := false }, kinds := [], alts := [], laidByText := true, laidKinds := [.data], laidTests := true, laidLooks := .later }
def SunChecksUptoCardSaid : Prop := Claim7.holds Tryd.pinned (.plain (OpenSpec.upto sunChecksSpec)) sunChecksUptoCard

/-- THE SECOND FORM's CARD OF 'newellaw07.SunTells'. -/
def sunTellsUptoCard : Claim7 := { stood := { row := sunTellsUptoRow, standIns := [], harness := (true, "8b6381c584169ccba40e0e506565be0d459bab5bc6271301227f3cc91a773030"), looks := false }, kinds := [], alts := [], laidByText := true, laidKinds := [.data], laidTests := true, laidLooks := .later }
def SunTellsUptoCardSaid : Prop := Claim7.holds Tryd.pinned (.plain (OpenSpec.upto sunTellsSpec)) sunTellsUptoCard

/-- THE SECOND FORM's CARD OF 'newellaw07.SunMoments'. -/
def sunMomentsUptoCard : Claim7 := { stood := { row := sunMomentsUptoRow, standIns := [], harness := (true, "8b6381c584169ccba40e0e506565be0d459bab5bc6271301227f3cc91a773030"), looks := false }, kinds := [], alts := [], laidByText := true, laidKinds := [.data], laidTests := true, laidLooks := .later }
def SunMomentsUptoCardSaid : Prop := Claim7.holds Tryd.pinned (.plain (OpenSpec.upto sunMomentsSpec)) sunMomentsUptoCard

/-- THE SECOND FORM's CARD OF 'newellaw06.ZoneChecks'. -/
def zoneChecksUptoCard : Claim7 := { stood := { row := zoneChecksUptoRow, standIns := [], harness := (true, "8b6381c584169ccba40e0e506565be0d459bab5bc6271301227f3cc91a773030"), looks := false }, kinds := [], alts := [], laidByText := true, laidKinds := [.data], laidTests := true, laidLooks := .later }
def ZoneChecksUptoCardSaid : Prop := Claim7.holds Tryd.pinned (.plain (OpenSpec.upto zoneChecksSpec)) zoneChecksUptoCard

/-- THE SECOND FORM's CARD OF 'newellaw06.ZoneLocals'. -/
def zoneLocalsUptoCard : Claim7 := { stood := { row := zoneLocalsUptoRow, standIns := [], harness := (true, "8b6381c584169ccba40e0e506565be0d459bab5bc6271301227f3cc91a773030"), looks := false }, kinds := [], alts := [], laidByText := true, laidKinds := [.data], laidTests := true, laidLooks := .later }
def ZoneLocalsUptoCardSaid : Prop := Claim7.holds Tryd.pinned (.plain (OpenSpec.upto zoneLocalsSpec)) zoneLocalsUptoCard

/-- THE SECOND FORM's CARD OF 'newellaw06.ZoneInstants'. -/
def zoneInstantsUptoCard : Claim7 := { stood := { row := zoneInstantsUptoRow, standIns := [], harness := (true, "8b6381c584169ccba40e0e506565be0d459bab5bc6271301227f3cc91a773030"), looks := false }, kinds := [], alts := [], laidByText := true, laidKinds := [.data], laidTests := true, laidLooks := .later }
def ZoneInstantsUptoCardSaid : Prop := Claim7.holds Tryd.pinned (.plain (OpenSpec.upto zoneInstantsSpec)) zoneInstantsUptoCard

/-- THE SECOND FORM's CARD OF 'newellaw06.ZoneBack'. -/
def zoneBackUptoCard : Claim7 := { stood := { row := zoneBackUptoRow, standIns := [], harness := (true, "8b6381c584169ccba40e0e506565be0d459bab5bc6271301227f3cc91a773030"), looks := false }, kinds := [], alts := [], laidByText := true, laidKinds := [.data], laidTests := true, laidLooks := .later }
def ZoneBackUptoCardSaid : Prop := Claim7.holds Tryd.pinned (.plain (OpenSpec.upto zoneBackSpec)) zoneBackUptoCard

/-- THE SECOND FORM's CARD OF 'newellaw06.ZoneSteps'. -/
def zoneStepsUptoCard : Claim7 := { stood := { row := zoneStepsUptoRow, standIns := [], harness := (true, "8b6381c584169ccba40e0e506565be0d459bab5bc6271301227f3cc91a773030"), looks := false }, kinds := [], alts := [], laidByText := true, laidKinds := [.data], laidTests := true, laidLooks := .later }
def ZoneStepsUptoCardSaid : Prop := Claim7.holds Tryd.pinned (.plain (OpenSpec.upto zoneStepsSpec)) zoneStepsUptoCard

/-- THE SECOND FORM's CARD OF 'newellaw06.ZoneMany'. -/
def zoneManyUptoCard : Claim7 := { stood := { row := zoneManyUptoRow, standIns := [], harness := (true, "8b6381c584169ccba40e0e506565be0d459bab5bc6271301227f3cc91a773030"), looks := false }, kinds := [], alts := [], laidByText := true, laidKinds := [.data], laidTests := true, laidLooks := .later }
def ZoneManyUptoCardSaid : Prop := Claim7.holds Tryd.pinned (.plain (OpenSpec.upto zoneManySpec)) zoneManyUptoCard

/-- THE SECOND FORM's CARD OF 'newellaw06.ZoneTurns'. -/
def zoneTurnsUptoCard : Claim7 := { stood := { row := zoneTurnsUptoRow, standIns := [], harness := (true, "8b6381c584169ccba40e0e506565be0d459bab5bc6271301227f3cc91a773030"), looks := false }, kinds := [], alts := [], laidByText := true, laidKinds := [.data], laidTests := true, laidLooks := .later }
def ZoneTurnsUptoCardSaid : Prop := Claim7.holds Tryd.pinned (.plain (OpenSpec.upto zoneTurnsSpec)) zoneTurnsUptoCard

/-- THE SECOND FORM's CARD OF 'newellaw07.SunLocal'. -/
def sunLocalUptoCard : Claim7 := { stood := { row := sunLocalUptoRow, standIns := [], harness := (true, "8b6381c584169ccba40e0e506565be0d459bab5bc6271301227f3cc91a773030"), looks := false }, kinds := [], alts := [], laidByText := true, laidKinds := [.data], laidTests := true, laidLooks := .later }
def SunLocalUptoCardSaid : Prop := Claim7.holds Tryd.pinned (.plain (OpenSpec.upto sunLocalSpec)) sunLocalUptoCard
end Rows
end Go.Proofs.YtdjfmcomeaijgaaDoor
