/-
  DERIVED. GIVEN WITH THE SEED: THE CARDS: each row of YtnmnknkdnjkpjaaDoorRows.lean that lists a variable, with what it lists TIED to the program's text (the seventh form; the later family's looks); each row that meets fmt, with fmt's text TOLD by the authors' own Lean function (tested against real Go, not proved from fmt's source: count such statements apart). THE CARD IS WHAT COUNTS. Prove the row's statement (the work); the ties are given (YtnmnknkdnjkpjaaDoorTie.lean); close each card by the builder's one call (the guide's Derived/Test/ToyasCard.lean, 'card_holds'). Laid BY PROGRAM, IN A SANDBOX (cutbox-door.mjs). By AI agents, Wed Nov 11 2026. No macro, syntax, notation, axiom, sorry.
-/
import Derived.Test.YtnmnknkdnjkpjaaDoorRows
import GoSem.ClaimSeven
namespace Go.Proofs.YtnmnknkdnjkpjaaDoor
namespace Rows

/-- THE TIED CARD OF 'supercargolaw21.PaperSpoils'. -/
def paperSpoilsCard : Claim7 := { stood := { row := paperSpoilsRow, standIns := [], harness := (true, "1af09f56f1271279e14bf0fa78804690d9fc46ce9082b941c361056e54d74761"), looks := true }, kinds := [], alts := [], laidByText := true, laidKinds := [.data, .data, .data, .sentinel, .sentinel], laidTests := true, laidLooks := .later }
def PaperSpoilsCardSaid : Prop := Claim7.holds Tryd.pinned (.plain (OpenSpec.ofChange paperSpoilsSpec)) paperSpoilsCard

/-- THE SECOND FORM's CARD OF 'supercargolaw21.PaperSpoils'. -/
def paperSpoilsUptoCard : Claim7 := { stood := { row := paperSpoilsUptoRow, standIns := [], harness := (true, "1af09f56f1271279e14bf0fa78804690d9fc46ce9082b941c361056e54d74761"), looks := true }, kinds := [], alts := [], laidByText := true, laidKinds := [.data, .data, .data, .sentinel, .sentinel], laidTests := true, laidLooks := .later }
def PaperSpoilsUptoCardSaid : Prop := Claim7.holds Tryd.pinned (.plain (OpenSpec.upto paperSpoilsSpec)) paperSpoilsUptoCard
end Rows
end Go.Proofs.YtnmnknkdnjkpjaaDoor
