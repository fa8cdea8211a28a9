/-
  DERIVED. GIVEN WITH THE SEED: THE CARDS: each row of YtjkmhlfjheiekaaGreatDoorRows.lean that lists a variable, with what it lists TIED to the program's text (the seventh form; the later family's looks); each row that meets fmt, with fmt's text TOLD by the authors' own Lean function (tested against real Go, not proved from fmt's source: count such statements apart). THE CARD IS WHAT COUNTS. Prove the row's statement (the work); the ties are given (YtjkmhlfjheiekaaGreatDoorTie.lean); close each card by the builder's one call (the guide's Derived/Test/ToyasCard.lean, 'card_holds'). Laid BY PROGRAM, IN A SANDBOX (cutbox-door.mjs). By AI agents, Wed Nov 11 2026. No macro, syntax, notation, axiom, sorry.
-/
import Derived.Test.YtjkmhlfjheiekaaGreatDoorRows
import GoSem.ClaimSeven
namespace Go.Proofs.YtjkmhlfjheiekaaGreatDoor
namespace Rows

/-- THE TIED CARD OF 'supercargolaw28.SyntaxRules'. -/
def syntaxRulesCard : Claim7 := { stood := { row := syntaxRulesRow, standIns := [], harness := (true, "2ff8368c5d4b2bf9ae7872a9d986b19cc5a337c8d3c058be260881b42e4df0c0"), looks := true }, kinds := [], alts := [], laidByText := true, laidKinds := [.data, .data, .data, .sentinel, .sentinel, .data, .data], laidTests := true, laidLooks := .later }
def SyntaxRulesCardSaid : Prop := Claim7.holds Tryz.pinned (.plain (OpenSpec.ofChange syntaxRulesSpec)) syntaxRulesCard

/-- THE TIED CARD OF 'supercargolaw28.SyntaxShows'. -/
def syntaxShowsCard : Claim7 := { stood := { row := syntaxShowsRow, standIns := [], harness := (true, "2ff8368c5d4b2bf9ae7872a9d986b19cc5a337c8d3c058be260881b42e4df0c0"), looks := true }, kinds := [], alts := [], laidByText := true, laidKinds := [.data, .data, .data, .sentinel, .sentinel, .data, .data], laidTests := true, laidLooks := .later }
def SyntaxShowsCardSaid : Prop := Claim7.holds Tryz.pinned (.plain (OpenSpec.ofChange syntaxShowsSpec)) syntaxShowsCard

/-- THE TIED CARD OF 'supercargolaw28.SyntaxSame'. -/
def syntaxSameCard : Claim7 := { stood := { row := syntaxSameRow, standIns := [], harness := (true, "2ff8368c5d4b2bf9ae7872a9d986b19cc5a337c8d3c058be260881b42e4df0c0"), looks := true }, kinds := [], alts := [], laidByText := true, laidKinds := [.data, .data, .data, .sentinel, .sentinel, .data, .data], laidTests := true, laidLooks := .later }
def SyntaxSameCardSaid : Prop := Claim7.holds Tryz.pinned (.plain (OpenSpec.ofChange syntaxSameSpec)) syntaxSameCard

/-- THE TIED CARD OF 'supercargolaw28.SyntaxParses'. -/
def syntaxParsesCard : Claim7 := { stood := { row := syntaxParsesRow, standIns := [], harness := (true, "2ff8368c5d4b2bf9ae7872a9d986b19cc5a337c8d3c058be260881b42e4df0c0"), looks := true }, kinds := [], alts := [], laidByText := true, laidKinds := [.data, .data, .data, .sentinel, .sentinel, .data, .data], laidTests := true, laidLooks := .later }
def SyntaxParsesCardSaid : Prop := Claim7.holds Tryz.pinned (.plain (OpenSpec.ofChange syntaxParsesSpec)) syntaxParsesCard

/-- THE TIED CARD OF 'supercargolaw28.SyntaxPrints'. -/
def syntaxPrintsCard : Claim7 := { stood := { row := syntaxPrintsRow, standIns := [], harness := (true, "2ff8368c5d4b2bf9ae7872a9d986b19cc5a337c8d3c058be260881b42e4df0c0"), looks := true }, kinds := [], alts := [], laidByText := true, laidKinds := [.data, .data, .data, .sentinel, .sentinel, .data, .data], laidTests := true, laidLooks := .later }
def SyntaxPrintsCardSaid : Prop := Claim7.holds Tryz.pinned (.plain (OpenSpec.ofChange syntaxPrintsSpec)) syntaxPrintsCard

/-- THE TIED CARD OF 'supercargolaw28.SyntaxBack'. -/
def syntaxBackCard : Claim7 := { stood := { row := syntaxBackRow, standIns := [], harness := (true, "2ff8368c5d4b2bf9ae7872a9d986b19cc5a337c8d3c058be260881b42e4df0c0"), looks := true }, kinds := [], alts := [], laidByText := true, laidKinds := [.data, .data, .data, .sentinel, .sentinel, .data, .data], laidTests := true, laidLooks := .later }
def SyntaxBackCardSaid : Prop := Claim7.holds Tryz.pinned (.plain (OpenSpec.ofChange syntaxBackSpec)) syntaxBackCard

/-- THE TIED CARD OF 'supercargolaw28.SyntaxCuts'. -/
def syntaxCutsCard : Claim7 := { stood := { row := syntaxCutsRow, standIns := [], harness := (true, "2ff8368c5d4b2bf9ae7872a9d986b19cc5a337c8d3c058be260881b42e4df0c0"), looks := true }, kinds := [], alts := [], laidByText := true, laidKinds := [.data, .data, .data, .sentinel, .sentinel, .data, .data], laidTests := true, laidLooks := .later }
def SyntaxCutsCardSaid : Prop := Claim7.holds Tryz.pinned (.plain (OpenSpec.ofChange syntaxCutsSpec)) syntaxCutsCard

/-- THE TIED CARD OF 'supercargolaw28.SyntaxStands'. -/
def syntaxStandsCard : Claim7 := { stood := { row := syntaxStandsRow, standIns := [], harness := (true, "2ff8368c5d4b2bf9ae7872a9d986b19cc5a337c8d3c058be260881b42e4df0c0"), looks := true }, kinds := [], alts := [], laidByText := true, laidKinds := [.data, .data, .data, .sentinel, .sentinel, .data, .data], laidTests := true, laidLooks := .later }
def SyntaxStandsCardSaid : Prop := Claim7.holds Tryz.pinned (.plain (OpenSpec.ofChange syntaxStandsSpec)) syntaxStandsCard

/-- THE TIED CARD OF 'supercargolaw28.SyntaxTokens'. -/
def syntaxTokensCard : Claim7 := { stood := { row := syntaxTokensRow, standIns := [], harness := (true, "2ff8368c5d4b2bf9ae7872a9d986b19cc5a337c8d3c058be260881b42e4df0c0"), looks := true }, kinds := [], alts := [], laidByText := true, laidKinds := [.data, .data, .data, .sentinel, .sentinel, .data, .data], laidTests := true, laidLooks := .later }
def SyntaxTokensCardSaid : Prop := Claim7.holds Tryz.pinned (.plain (OpenSpec.ofChange syntaxTokensSpec)) syntaxTokensCard

/-- THE SECOND FORM's CARD OF 'supercargolaw28.SyntaxRules'. -/
def syntaxRulesUptoCard : Claim7 := { stood := { row := syntaxRulesUptoRow, standIns := [], harness := (true, "2ff8368c5d4b2bf9ae7872a9d986b19cc5a337c8d3c058be260881b42e4df0c0"), looks := true }, kinds := [], alts := [], laidByText := true, laidKinds := [.data, .data, .data, .sentinel, .sentinel, .data, .data], laidTests := true, laidLooks := .later }
def SyntaxRulesUptoCardSaid : Prop := Claim7.holds Tryz.pinned (.plain (OpenSpec.upto syntaxRulesSpec)) syntaxRulesUptoCard

/-- THE SECOND FORM's CARD OF 'supercargolaw28.SyntaxShows'. -/
def syntaxShowsUptoCard : Claim7 := { stood := { row := syntaxShowsUptoRow, standIns := [], harness := (true, "2ff8368c5d4b2bf9ae7872a9d986b19cc5a337c8d3c058be260881b42e4df0c0"), looks := true }, kinds := [], alts := [], laidByText := true, laidKinds := [.data, .data, .data, .sentinel, .sentinel, .data, .data], laidTests := true, laidLooks := .later }
def SyntaxShowsUptoCardSaid : Prop := Claim7.holds Tryz.pinned (.plain (OpenSpec.upto syntaxShowsSpec)) syntaxShowsUptoCard

/-- THE SECOND FORM's CARD OF 'supercargolaw28.SyntaxSame'. -/
def syntaxSameUptoCard : Claim7 := { stood := { row := syntaxSameUptoRow, standIns := [], harness := (true, "2ff8368c5d4b2bf9ae7872a9d986b19cc5a337c8d3c058be260881b42e4df0c0"), looks := true }, kinds := [], alts := [], laidByText := true, laidKinds := [.data, .data, .data, .sentinel, .sentinel, .data, .data], laidTests := true, laidLooks := .later }
def SyntaxSameUptoCardSaid : Prop := Claim7.holds Tryz.pinned (.plain (OpenSpec.upto syntaxSameSpec)) syntaxSameUptoCard

/-- THE SECOND FORM's CARD OF 'supercargolaw28.SyntaxParses'. -/
def syntaxParsesUptoCard : Claim7 := { stood := { row := syntaxParsesUptoRow, standIns := [], harness := (true, "2ff8368c5d4b2bf9ae7872a9d986b19cc5a337c8d3c058be260881b42e4df0c0"), looks := true }, kinds := [], alts := [], laidByText := true, laidKinds := [.data, .data, .data, .sentinel, .sentinel, .data, .data], laidTests := true, laidLooks := .later }
def SyntaxParsesUptoCardSaid : Prop := Claim7.holds Tryz.pinned (.plain (OpenSpec.upto syntaxParsesSpec)) syntaxParsesUptoCard

/-- THE SECOND FORM's CARD OF 'supercargolaw28.SyntaxPrints'. -/
def syntaxPrintsUptoCard : Claim7 := { stood := { row := syntaxPrintsUptoRow, standIns := [], harness := (true, "2ff8368c5d4b2bf9ae7872a9d986b19cc5a337c8d3c058be260881b42e4df0c0"), looks := true }, kinds := [], alts := [], laidByText := true, laidKinds := [.data, .data, .data, .sentinel, .sentinel, .data, .data], laidTests := true, laidLooks := .later }
def SyntaxPrintsUptoCardSaid : Prop := Claim7.holds Tryz.pinned (.plain (OpenSpec.upto syntaxPrintsSpec)) syntaxPrintsUptoCard

/-- THE SECOND FORM's CARD OF 'supercargolaw28.SyntaxBack'. -/
def syntaxBackUptoCard : Claim7 := { stood := { row := syntaxBackUptoRow, standIns := [], harness := (true, "2ff8368c5d4b2bf9ae7872a9d986b19cc5a337c8d3c058be260881b42e4df0c0"), looks := true }, kinds := [], alts := [], laidByText := true, laidKinds := [.data, .data, .data, .sentinel, .sentinel, .data, .data], laidTests := true, laidLooks := .later }
def SyntaxBackUptoCardSaid : Prop := Claim7.holds Tryz.pinned (.plain (OpenSpec.upto syntaxBackSpec)) syntaxBackUptoCard

/-- THE SECOND FORM's CARD OF 'supercargolaw28.SyntaxCuts'. -/
def syntaxCutsUptoCard : Claim7 := { stood := { row := syntaxCutsUptoRow, standIns := [], harness := (true, "2ff8368c5d4b2bf9ae7872a9d986b19cc5a337c8d3c058be260881b42e4df0c0"), looks := true }, kinds := [], alts := [], laidByText := true, laidKinds := [.data, .data, .data, .sentinel, .sentinel, .data, .data], laidTests := true, laidLooks := .later }
def SyntaxCutsUptoCardSaid : Prop := Claim7.holds Tryz.pinned (.plain (OpenSpec.upto syntaxCutsSpec)) syntaxCutsUptoCard

/-- THE SECOND FORM's CARD OF 'supercargolaw28.SyntaxStands'. -/
def syntaxStandsUptoCard : Claim7 := { stood := { row := syntaxStandsUptoRow, standIns := [], harness := (true, "2ff8368c5d4b2bf9ae7872a9d986b19cc5a337c8d3c058be260881b42e4df0c0"), looks := true }, kinds := [], alts := [], laidByText := true, laidKinds := [.data, .data, .data, .sentinel, .sentinel, .data, .data], laidTests := true, laidLooks := .later }
def SyntaxStandsUptoCardSaid : Prop := Claim7.holds Tryz.pinned (.plain (OpenSpec.upto syntaxStandsSpec)) syntaxStandsUptoCard

/-- THE SECOND FORM's CARD OF 'supercargolaw28.SyntaxTokens'. -/
def syntaxTokensUptoCard : Claim7 := { stood := { row := syntaxTokensUptoRow, standIns := [], harness := (true, "2ff8368c5d4b2bf9ae7872a9d986b19cc5a337c8d3c058be260881b42e4df0c0"), looks := true }, kinds := [], alts := [], laidByText := true, laidKinds := [.data, .data, .data, .sentinel, .sentinel, .data, .data], laidTests := true, laidLooks := .later }
def SyntaxTokensUptoCardSaid : Prop := Claim7.holds Tryz.pinned (.plain (OpenSpec.upto syntaxTokensSpec)) syntaxTokensUptoCard
end Rows
end Go.Proofs.YtjkmhlfjheiekaaGreatDoor
