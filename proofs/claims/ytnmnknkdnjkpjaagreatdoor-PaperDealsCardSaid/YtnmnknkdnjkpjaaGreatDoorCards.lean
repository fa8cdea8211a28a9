/-
  DERIVED. GIVEN WITH THE SEED: THE CARDS: each row of YtnmnknkdnjkpjaaGreatDoorRows.lean that lists a variable, with what it lists TIED to the program's text (the seventh form; the later family's looks); each row that meets fmt, with fmt's text TOLD by the authors' own Lean function (tested against real Go, not proved from fmt's source: count such statements apart). THE CARD IS WHAT COUNTS. Prove the row's statement (the work); the ties are given (YtnmnknkdnjkpjaaGreatDoorTie.lean); close each card by the builder's one call (the guide's Derived/Test/ToyasCard.lean, 'card_holds'). Laid BY PROGRAM, IN A SANDBOX (cutbox-door.mjs). By AI agents, Wed Nov 11 2026. No macro, syntax, notation, axiom, sorry.
-/
import Derived.Test.YtnmnknkdnjkpjaaGreatDoorRows
import GoSem.ClaimSeven
namespace Go.Proofs.YtnmnknkdnjkpjaaGreatDoor
namespace Rows

/-- THE TIED CARD OF 'supercargolaw21.PaperFacts'. -/
def paperFactsCard : Claim7 := { stood := { row := paperFactsRow, standIns := [], harness := (true, "a2487f7928369936984c7e0f211492a2eba00c4171e0fb50eae23bf44d43f897"), looks := true }, kinds := [], alts := [], laidByText := true, laidKinds := [.data, .data, .data, .sentinel, .sentinel], laidTests := true, laidLooks := .later }
def PaperFactsCardSaid : Prop := Claim7.holds Tryz.pinned (.plain (OpenSpec.ofChange paperFactsSpec)) paperFactsCard

/-- THE TIED CARD OF 'supercargolaw21.PaperSets'. -/
def paperSetsCard : Claim7 := { stood := { row := paperSetsRow, standIns := [], harness := (true, "a2487f7928369936984c7e0f211492a2eba00c4171e0fb50eae23bf44d43f897"), looks := true }, kinds := [], alts := [], laidByText := true, laidKinds := [.data, .data, .data, .sentinel, .sentinel], laidTests := true, laidLooks := .later }
def PaperSetsCardSaid : Prop := Claim7.holds Tryz.pinned (.plain (OpenSpec.ofChange paperSetsSpec)) paperSetsCard

/-- THE TIED CARD OF 'supercargolaw21.PaperWanted'. -/
def paperWantedCard : Claim7 := { stood := { row := paperWantedRow, standIns := [], harness := (true, "a2487f7928369936984c7e0f211492a2eba00c4171e0fb50eae23bf44d43f897"), looks := true }, kinds := [], alts := [], laidByText := true, laidKinds := [.data, .data, .data, .sentinel, .sentinel], laidTests := true, laidLooks := .later }
def PaperWantedCardSaid : Prop := Claim7.holds Tryz.pinned (.plain (OpenSpec.ofChange paperWantedSpec)) paperWantedCard

/-- THE TIED CARD OF 'supercargolaw21.PaperDeals'. -/
def paperDealsCard : Claim7 := { stood := { row := paperDealsRow, standIns := [], harness := (true, "a2487f7928369936984c7e0f211492a2eba00c4171e0fb50eae23bf44d43f897"), looks := true }, kinds := [], alts := [], laidByText := true, laidKinds := [.data, .data, .data, .sentinel, .sentinel], laidTests := true, laidLooks := .later }
def PaperDealsCardSaid : Prop := Claim7.holds Tryz.pinned (.plain (OpenSpec.ofChange paperDealsSpec)) paperDealsCard

/-- THE SECOND FORM's CARD OF 'supercargolaw21.PaperFacts'. -/
def paperFactsUptoCard : Claim7 := { stood := { row := paperFactsUptoRow, standIns := [], harness := (true, "a2487f7928369936984c7e0f211492a2eba00c4171e0fb50eae23bf44d43f897"), looks := true }, kinds := [], alts := [], laidByText := true, laidKinds := [.data, .data, .data, .sentinel, .sentinel], laidTests := true, laidLooks := .later }
def PaperFactsUptoCardSaid : Prop := Claim7.holds Tryz.pinned (.plain (OpenSpec.upto paperFactsSpec)) paperFactsUptoCard

/-- THE SECOND FORM's CARD OF 'supercargolaw21.PaperSets'. -/
def paperSetsUptoCard : Claim7 := { stood := { row := paperSetsUptoRow, standIns := [], harness := (true, "a2487f7928369936984c7e0f211492a2eba00c4171e0fb50eae23bf44d43f897"), looks := true }, kinds := [], alts := [], laidByText := true, laidKinds := [.data, .data, .data, .sentinel, .sentinel], laidTests := true, laidLooks := .later }
def PaperSetsUptoCardSaid : Prop := Claim7.holds Tryz.pinned (.plain (OpenSpec.upto paperSetsSpec)) paperSetsUptoCard

/-- THE SECOND FORM's CARD OF 'supercargolaw21.PaperWanted'. -/
def paperWantedUptoCard : Claim7 := { stood := { row := paperWantedUptoRow, standIns := [], harness := (true, "a2487f7928369936984c7e0f211492a2eba00c4171e0fb50eae23bf44d43f897"), looks := true }, kinds := [], alts := [], laidByText := true, laidKinds := [.data, .data, .data, .sentinel, .sentinel], laidTests := true, laidLooks := .later }
def PaperWantedUptoCardSaid : Prop := Claim7.holds Tryz.pinned (.plain (OpenSpec.upto paperWantedSpec)) paperWantedUptoCard

/-- THE SECOND FORM's CARD OF 'supercargolaw21.PaperDeals'. -/
def paperDealsUptoCard : Claim7 := { stood := { row := paperDealsUptoRow, standIns := [], harness := (true, "a2487f7928369936984c7e0f211492a2eba00c4171e0fb50eae23bf44d43f897"), looks := true }, kinds := [], alts := [], laidByText := true, laidKinds := [.data, .data, .data, .sentinel, .sentinel], laidTests := true, laidLooks := .later }
def PaperDealsUptoCardSaid : Prop := Claim7.holds Tryz.pinned (.plain (OpenSpec.upto paperDealsSpec)) paperDealsUptoCard
end Rows
end Go.Proofs.YtnmnknkdnjkpjaaGreatDoor
