/-
  DERIVED. GIVEN WITH THE SEED: THE CARDS: each row of YtfnifgppblbjhaaGreatDoorRows.lean that lists a variable, with what it lists TIED to the program's text (the seventh form; the later family's looks); each row that meets fmt, with fmt's text TOLD by the authors' own Lean function (tested against real Go, not proved from fmt's source: count such statements apart). THE CARD IS WHAT COUNTS. Prove the row's statement (the work); the ties are given (YtfnifgppblbjhaaGreatDoorTie.lean); close each card by the builder's one call (the guide's Derived/Test/ToyasCard.lean, 'card_holds'). Laid BY PROGRAM, IN A SANDBOX (cutbox-door.mjs). By AI agents, Wed Nov 11 2026. No macro, syntax, notation, axiom, sorry.
-/
import Derived.Test.YtfnifgppblbjhaaGreatDoorRows
import GoSem.ClaimSeven
namespace Go.Proofs.YtfnifgppblbjhaaGreatDoor
namespace Rows

/-- THE TIED CARD OF 'neweltop.TopHoly'. -/
def topHolyCard : Claim7 := { stood := { row := topHolyRow, standIns := [], harness := (true, "f38a9205bcdff77e647f7c31a1369ed1076b6e733b9b125c80a93f9353020eb4"), looks := true }, kinds := [], alts := [], laidByText := true, laidKinds := [.data, .data, .handle], laidTests := true, laidLooks := .later }
def TopHolyCardSaid : Prop := Claim7.holds Tryz.pinned (.plain (OpenSpec.ofChange topHolySpec)) topHolyCard

/-- THE SECOND FORM's CARD OF 'neweltop.TopHoly'. -/
def topHolyUptoCard : Claim7 := { stood := { row := topHolyUptoRow, standIns := [], harness := (true, "f38a9205bcdff77e647f7c31a1369ed1076b6e733b9b125c80a93f9353020eb4"), looks := true }, kinds := [], alts := [], laidByText := true, laidKinds := [.data, .data, .handle], laidTests := true, laidLooks := .later }
def TopHolyUptoCardSaid : Prop := Claim7.holds Tryz.pinned (.plain (OpenSpec.upto topHolySpec)) topHolyUptoCard
end Rows
end Go.Proofs.YtfnifgppblbjhaaGreatDoor
