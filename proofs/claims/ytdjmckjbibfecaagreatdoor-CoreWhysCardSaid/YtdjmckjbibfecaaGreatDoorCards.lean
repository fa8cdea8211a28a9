/-
  DERIVED. GIVEN WITH THE SEED: THE CARDS: each row of YtdjmckjbibfecaaGreatDoorRows.lean that lists a variable, with what it lists TIED to the program's text (the seventh form; the later family's looks); each row that meets fmt, with fmt's text TOLD by the authors' own Lean function (tested against real Go, not proved from fmt's source: count such statements apart). THE CARD IS WHAT COUNTS. Prove the row's statement (the work); the ties are given (YtdjmckjbibfecaaGreatDoorTie.lean); close each card by the builder's one call (the guide's Derived/Test/ToyasCard.lean, 'card_holds'). Laid BY PROGRAM, IN A SANDBOX (cutbox-door.mjs). By AI agents, Wed Nov 11 2026. No macro, syntax, notation, axiom, sorry.
-/
import Derived.Test.YtdjmckjbibfecaaGreatDoorRows
import GoSem.ClaimSeven
namespace Go.Proofs.YtdjmckjbibfecaaGreatDoor
namespace Rows

/-- THE TIED CARD OF 'supercargolaw32.CoreCores'. -/
def coreCoresCard : Claim7 := { stood := { row := coreCoresRow, standIns := [], harness := (true, "1bbe40f11532b71319e0ef20c08bfe6b59dc92478dbccd1d314ad2ceab2e04cf"), looks := true }, kinds := [], alts := [], laidByText := true, laidKinds := [.data, .data, .data, .sentinel, .sentinel], laidTests := true, laidLooks := .later }
def CoreCoresCardSaid : Prop := Claim7.holds Tryz.pinned (.plain (OpenSpec.ofChange coreCoresSpec)) coreCoresCard

/-- THE TIED CARD OF 'supercargolaw32.CoreEnough'. -/
def coreEnoughCard : Claim7 := { stood := { row := coreEnoughRow, standIns := [], harness := (true, "1bbe40f11532b71319e0ef20c08bfe6b59dc92478dbccd1d314ad2ceab2e04cf"), looks := true }, kinds := [], alts := [], laidByText := true, laidKinds := [.data, .data, .data, .sentinel, .sentinel], laidTests := true, laidLooks := .later }
def CoreEnoughCardSaid : Prop := Claim7.holds Tryz.pinned (.plain (OpenSpec.ofChange coreEnoughSpec)) coreEnoughCard

/-- THE TIED CARD OF 'supercargolaw32.CoreWaives'. -/
def coreWaivesCard : Claim7 := { stood := { row := coreWaivesRow, standIns := [], harness := (true, "1bbe40f11532b71319e0ef20c08bfe6b59dc92478dbccd1d314ad2ceab2e04cf"), looks := true }, kinds := [], alts := [], laidByText := true, laidKinds := [.data, .data, .data, .sentinel, .sentinel, .data], laidTests := true, laidLooks := .later }
def CoreWaivesCardSaid : Prop := Claim7.holds Tryz.pinned (.plain (OpenSpec.ofChange coreWaivesSpec)) coreWaivesCard

/-- THE TIED CARD OF 'supercargolaw32.CoreFiner'. -/
def coreFinerCard : Claim7 := { stood := { row := coreFinerRow, standIns := [], harness := (true, "1bbe40f11532b71319e0ef20c08bfe6b59dc92478dbccd1d314ad2ceab2e04cf"), looks := true }, kinds := [], alts := [], laidByText := true, laidKinds := [.data, .data, .data, .sentinel, .sentinel, .data], laidTests := true, laidLooks := .later }
def CoreFinerCardSaid : Prop := Claim7.holds Tryz.pinned (.plain (OpenSpec.ofChange coreFinerSpec)) coreFinerCard

/-- THE TIED CARD OF 'supercargolaw32.CoreMends'. -/
def coreMendsCard : Claim7 := { stood := { row := coreMendsRow, standIns := [], harness := (true, "1bbe40f11532b71319e0ef20c08bfe6b59dc92478dbccd1d314ad2ceab2e04cf"), looks := true }, kinds := [], alts := [], laidByText := true, laidKinds := [.data, .data, .data, .sentinel, .sentinel, .data, .data], laidTests := true, laidLooks := .later }
def CoreMendsCardSaid : Prop := Claim7.holds Tryz.pinned (.plain (OpenSpec.ofChange coreMendsSpec)) coreMendsCard

/-- THE TIED CARD OF 'supercargolaw32.CoreGone'. -/
def coreGoneCard : Claim7 := { stood := { row := coreGoneRow, standIns := [], harness := (true, "1bbe40f11532b71319e0ef20c08bfe6b59dc92478dbccd1d314ad2ceab2e04cf"), looks := true }, kinds := [], alts := [], laidByText := true, laidKinds := [.data, .data, .data, .sentinel, .sentinel, .data, .data], laidTests := true, laidLooks := .later }
def CoreGoneCardSaid : Prop := Claim7.holds Tryz.pinned (.plain (OpenSpec.ofChange coreGoneSpec)) coreGoneCard

/-- THE TIED CARD OF 'supercargolaw32.CoreWhys'. -/
def coreWhysCard : Claim7 := { stood := { row := coreWhysRow, standIns := [], harness := (true, "1bbe40f11532b71319e0ef20c08bfe6b59dc92478dbccd1d314ad2ceab2e04cf"), looks := true }, kinds := [], alts := [], laidByText := true, laidKinds := [.data, .data, .data, .sentinel, .sentinel, .data, .data, .data, .data, .data], laidTests := true, laidLooks := .later }
def CoreWhysCardSaid : Prop := Claim7.holds Tryz.pinned (.plain (OpenSpec.ofChange coreWhysSpec)) coreWhysCard

/-- THE TIED CARD OF 'supercargolaw32.CoreFine'. -/
def coreFineCard : Claim7 := { stood := { row := coreFineRow, standIns := [], harness := (true, "1bbe40f11532b71319e0ef20c08bfe6b59dc92478dbccd1d314ad2ceab2e04cf"), looks := true }, kinds := [], alts := [], laidByText := true, laidKinds := [.data, .data, .data, .sentinel, .sentinel, .data, .data, .data, .data, .data, .data], laidTests := true, laidLooks := .later }
def CoreFineCardSaid : Prop := Claim7.holds Tryz.pinned (.plain (OpenSpec.ofChange coreFineSpec)) coreFineCard

/-- THE SECOND FORM's CARD OF 'supercargolaw32.CoreCores'. -/
def coreCoresUptoCard : Claim7 := { stood := { row := coreCoresUptoRow, standIns := [], harness := (true, "1bbe40f11532b71319e0ef20c08bfe6b59dc92478dbccd1d314ad2ceab2e04cf"), looks := true }, kinds := [], alts := [], laidByText := true, laidKinds := [.data, .data, .data, .sentinel, .sentinel], laidTests := true, laidLooks := .later }
def CoreCoresUptoCardSaid : Prop := Claim7.holds Tryz.pinned (.plain (OpenSpec.upto coreCoresSpec)) coreCoresUptoCard

/-- THE SECOND FORM's CARD OF 'supercargolaw32.CoreEnough'. -/
def coreEnoughUptoCard : Claim7 := { stood := { row := coreEnoughUptoRow, standIns := [], harness := (true, "1bbe40f11532b71319e0ef20c08bfe6b59dc92478dbccd1d314ad2ceab2e04cf"), looks := true }, kinds := [], alts := [], laidByText := true, laidKinds := [.data, .data, .data, .sentinel, .sentinel], laidTests := true, laidLooks := .later }
def CoreEnoughUptoCardSaid : Prop := Claim7.holds Tryz.pinned (.plain (OpenSpec.upto coreEnoughSpec)) coreEnoughUptoCard

/-- THE SECOND FORM's CARD OF 'supercargolaw32.CoreWaives'. -/
def coreWaivesUptoCard : Claim7 := { stood := { row := coreWaivesUptoRow, standIns := [], harness := (true, "1bbe40f11532b71319e0ef20c08bfe6b59dc92478dbccd1d314ad2ceab2e04cf"), looks := true }, kinds := [], alts := [], laidByText := true, laidKinds := [.data, .data, .data, .sentinel, .sentinel, .data], laidTests := true, laidLooks := .later }
def CoreWaivesUptoCardSaid : Prop := Claim7.holds Tryz.pinned (.plain (OpenSpec.upto coreWaivesSpec)) coreWaivesUptoCard

/-- THE SECOND FORM's CARD OF 'supercargolaw32.CoreFiner'. -/
def coreFinerUptoCard : Claim7 := { stood := { row := coreFinerUptoRow, standIns := [], harness := (true, "1bbe40f11532b71319e0ef20c08bfe6b59dc92478dbccd1d314ad2ceab2e04cf"), looks := true }, kinds := [], alts := [], laidByText := true, laidKinds := [.data, .data, .data, .sentinel, .sentinel, .data], laidTests := true, laidLooks := .later }
def CoreFinerUptoCardSaid : Prop := Claim7.holds Tryz.pinned (.plain (OpenSpec.upto coreFinerSpec)) coreFinerUptoCard

/-- THE SECOND FORM's CARD OF 'supercargolaw32.CoreMends'. -/
def coreMendsUptoCard : Claim7 := { stood := { row := coreMendsUptoRow, standIns := [], harness := (true, "1bbe40f11532b71319e0ef20c08bfe6b59dc92478dbccd1d314ad2ceab2e04cf"), looks := true }, kinds := [], alts := [], laidByText := true, laidKinds := [.data, .data, .data, .sentinel, .sentinel, .data, .data], laidTests := true, laidLooks := .later }
def CoreMendsUptoCardSaid : Prop := Claim7.holds Tryz.pinned (.plain (OpenSpec.upto coreMendsSpec)) coreMendsUptoCard

/-- THE SECOND FORM's CARD OF 'supercargolaw32.CoreGone'. -/
def coreGoneUptoCard : Claim7 := { stood := { row := coreGoneUptoRow, standIns := [], harness := (true, "1bbe40f11532b71319e0ef20c08bfe6b59dc92478dbccd1d314ad2ceab2e04cf"), looks := true }, kinds := [], alts := [], laidByText := true, laidKinds := [.data, .data, .data, .sentinel, .sentinel, .data, .data], laidTests := true, laidLooks := .later }
def CoreGoneUptoCardSaid : Prop := Claim7.holds Tryz.pinned (.plain (OpenSpec.upto coreGoneSpec)) coreGoneUptoCard

/-- THE SECOND FORM's CARD OF 'supercargolaw32.CoreWhys'. -/
def coreWhysUptoCard : Claim7 := { stood := { row := coreWhysUptoRow, standIns := [], harness := (true, "1bbe40f11532b71319e0ef20c08bfe6b59dc92478dbccd1d314ad2ceab2e04cf"), looks := true }, kinds := [], alts := [], laidByText := true, laidKinds := [.data, .data, .data, .sentinel, .sentinel, .data, .data, .data, .data, .data], laidTests := true, laidLooks := .later }
def CoreWhysUptoCardSaid : Prop := Claim7.holds Tryz.pinned (.plain (OpenSpec.upto coreWhysSpec)) coreWhysUptoCard

/-- THE SECOND FORM's CARD OF 'supercargolaw32.CoreFine'. -/
def coreFineUptoCard : Claim7 := { stood := { row := coreFineUptoRow, standIns := [], harness := (true, "1bbe40f11532b71319e0ef20c08bfe6b59dc92478dbccd1d314ad2ceab2e04cf"), looks := true }, kinds := [], alts := [], laidByText := true, laidKinds := [.data, .data, .data, .sentinel, .sentinel, .data, .data, .data, .data, .data, .data], laidTests := true, laidLooks := .later }
def CoreFineUptoCardSaid : Prop := Claim7.holds Tryz.pinned (.plain (OpenSpec.upto coreFineSpec)) coreFineUptoCard
end Rows
end Go.Proofs.YtdjmckjbibfecaaGreatDoor
