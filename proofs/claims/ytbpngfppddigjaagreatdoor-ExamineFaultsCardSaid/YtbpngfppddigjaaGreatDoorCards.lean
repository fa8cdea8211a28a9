/-
  DERIVED. GIVEN WITH THE SEED: THE CARDS: each row of YtbpngfppddigjaaGreatDoorRows.lean that lists a variable, with what it lists TIED to the program's text (the seventh form; the later family's looks); each row that meets fmt, with fmt's text TOLD by the authors' own Lean function (tested against real Go, not proved from fmt's source: count such statements apart). THE CARD IS WHAT COUNTS. Prove the row's statement (the work); the ties are given (YtbpngfppddigjaaGreatDoorTie.lean); close each card by the builder's one call (the guide's Derived/Test/ToyasCard.lean, 'card_holds'). Laid BY PROGRAM, IN A SANDBOX (cutbox-door.mjs). By AI agents, Wed Nov 11 2026. No macro, syntax, notation, axiom, sorry.
-/
import Derived.Test.YtbpngfppddigjaaGreatDoorRows
import GoSem.ClaimSeven
namespace Go.Proofs.YtbpngfppddigjaaGreatDoor
namespace Rows

/-- THE TIED CARD OF 'supercargolaw31.ExamineFaults'. -/
def examineFaultsCard : Claim7 := { stood := { row := examineFaultsRow, standIns := [], harness := (true, "04227ba52dc003caf32b4006844b29b11debb59701be83f54019665cfbbcd0ea"), looks := true }, kinds := [], alts := [], laidByText := true, laidKinds := [.data, .data, .data, .sentinel, .sentinel, .data, .data, .data], laidTests := true, laidLooks := .later }
def ExamineFaultsCardSaid : Prop := Claim7.holds Tryz.pinned (.plain (OpenSpec.ofChange examineFaultsSpec)) examineFaultsCard

/-- THE SECOND FORM's CARD OF 'supercargolaw31.ExamineFaults'. -/
def examineFaultsUptoCard : Claim7 := { stood := { row := examineFaultsUptoRow, standIns := [], harness := (true, "04227ba52dc003caf32b4006844b29b11debb59701be83f54019665cfbbcd0ea"), looks := true }, kinds := [], alts := [], laidByText := true, laidKinds := [.data, .data, .data, .sentinel, .sentinel, .data, .data, .data], laidTests := true, laidLooks := .later }
def ExamineFaultsUptoCardSaid : Prop := Claim7.holds Tryz.pinned (.plain (OpenSpec.upto examineFaultsSpec)) examineFaultsUptoCard
end Rows
end Go.Proofs.YtbpngfppddigjaaGreatDoor
