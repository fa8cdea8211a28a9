/-
  DERIVED. GIVEN WITH THE SEED: THE CARDS: each row of YtpnkpnocipkedaaDoorRows.lean that lists a variable, with what it lists TIED to the program's text (the seventh form; the later family's looks); each row that meets fmt, with fmt's text TOLD by the authors' own Lean function (tested against real Go, not proved from fmt's source: count such statements apart). THE CARD IS WHAT COUNTS. Prove the row's statement (the work); the ties are given (YtpnkpnocipkedaaDoorTie.lean); close each card by the builder's one call (the guide's Derived/Test/ToyasCard.lean, 'card_holds'). Laid BY PROGRAM, IN A SANDBOX (cutbox-door.mjs). By AI agents, Wed Nov 11 2026. No macro, syntax, notation, axiom, sorry.
-/
import Derived.Test.YtpnkpnocipkedaaDoorRows
import GoSem.ClaimSeven
namespace Go.Proofs.YtpnkpnocipkedaaDoor
namespace Rows

/-- THE TIED CARD OF 'supercargolaw31.ExamineStands'. -/
def examineStandsCard : Claim7 := { stood := { row := examineStandsRow, standIns := [], harness := (true, "f6922da9df9e384f0fe76922455b4543eec9cc904989385f5f922365687266e3"), looks := true }, kinds := [], alts := [], laidByText := true, laidKinds := [.data, .data, .data, .sentinel, .sentinel, .data, .data, .data], laidTests := true, laidLooks := .later }
def ExamineStandsCardSaid : Prop := Claim7.holds Tryd.pinned (.plain (OpenSpec.ofChange examineStandsSpec)) examineStandsCard

/-- THE TIED CARD OF 'supercargolaw31.ExamineTexts'. -/
def examineTextsCard : Claim7 := { stood := { row := examineTextsRow, standIns := [], harness := (true, "f6922da9df9e384f0fe76922455b4543eec9cc904989385f5f922365687266e3"), looks := true }, kinds := [], alts := [], laidByText := true, laidKinds := [.data, .data, .data, .sentinel, .sentinel, .data, .data, .data], laidTests := true, laidLooks := .later }
def ExamineTextsCardSaid : Prop := Claim7.holds Tryd.pinned (.plain (OpenSpec.ofChange examineTextsSpec)) examineTextsCard

/-- THE TIED CARD OF 'supercargolaw31.ExamineTurns'. -/
def examineTurnsCard : Claim7 := { stood := { row := examineTurnsRow, standIns := [], harness := (true, "f6922da9df9e384f0fe76922455b4543eec9cc904989385f5f922365687266e3"), looks := true }, kinds := [], alts := [], laidByText := true, laidKinds := [.data, .data, .data, .sentinel, .sentinel, .data, .data, .data], laidTests := true, laidLooks := .later }
def ExamineTurnsCardSaid : Prop := Claim7.holds Tryd.pinned (.plain (OpenSpec.ofChange examineTurnsSpec)) examineTurnsCard

/-- THE TIED CARD OF 'supercargolaw31.ExamineMore'. -/
def examineMoreCard : Claim7 := { stood := { row := examineMoreRow, standIns := [], harness := (true, "f6922da9df9e384f0fe76922455b4543eec9cc904989385f5f922365687266e3"), looks := true }, kinds := [], alts := [], laidByText := true, laidKinds := [.data, .data, .data, .sentinel, .sentinel, .data, .data, .data], laidTests := true, laidLooks := .later }
def ExamineMoreCardSaid : Prop := Claim7.holds Tryd.pinned (.plain (OpenSpec.ofChange examineMoreSpec)) examineMoreCard

/-- THE TIED CARD OF 'supercargolaw31.ExamineDay'. -/
def examineDayCard : Claim7 := { stood := { row := examineDayRow, standIns := [], harness := (true, "f6922da9df9e384f0fe76922455b4543eec9cc904989385f5f922365687266e3"), looks := true }, kinds := [], alts := [], laidByText := true, laidKinds := [.data, .data, .data, .sentinel, .sentinel, .data, .data, .data], laidTests := true, laidLooks := .later }
def ExamineDayCardSaid : Prop := Claim7.holds Tryd.pinned (.plain (OpenSpec.ofChange examineDaySpec)) examineDayCard

/-- THE TIED CARD OF 'supercargolaw31.ExamineOnce'. -/
def examineOnceCard : Claim7 := { stood := { row := examineOnceRow, standIns := [], harness := (true, "f6922da9df9e384f0fe76922455b4543eec9cc904989385f5f922365687266e3"), looks := true }, kinds := [], alts := [], laidByText := true, laidKinds := [.data, .data, .data, .sentinel, .sentinel, .data, .data, .data], laidTests := true, laidLooks := .later }
def ExamineOnceCardSaid : Prop := Claim7.holds Tryd.pinned (.plain (OpenSpec.ofChange examineOnceSpec)) examineOnceCard

/-- THE TIED CARD OF 'supercargolaw31.ExamineSpoilt'. -/
def examineSpoiltCard : Claim7 := { stood := { row := examineSpoiltRow, standIns := [], harness := (true, "f6922da9df9e384f0fe76922455b4543eec9cc904989385f5f922365687266e3"), looks := true }, kinds := [], alts := [], laidByText := true, laidKinds := [.data, .data, .data, .sentinel, .sentinel, .data, .data, .data], laidTests := true, laidLooks := .later }
def ExamineSpoiltCardSaid : Prop := Claim7.holds Tryd.pinned (.plain (OpenSpec.ofChange examineSpoiltSpec)) examineSpoiltCard

/-- THE TIED CARD OF 'supercargolaw31.ExamineNeeds'. -/
def examineNeedsCard : Claim7 := { stood := { row := examineNeedsRow, standIns := [], harness := (true, "f6922da9df9e384f0fe76922455b4543eec9cc904989385f5f922365687266e3"), looks := true }, kinds := [], alts := [], laidByText := true, laidKinds := [.data, .data, .data, .sentinel, .sentinel, .data, .data, .data], laidTests := true, laidLooks := .later }
def ExamineNeedsCardSaid : Prop := Claim7.holds Tryd.pinned (.plain (OpenSpec.ofChange examineNeedsSpec)) examineNeedsCard

/-- THE TIED CARD OF 'supercargolaw31.ExamineJoins'. -/
def examineJoinsCard : Claim7 := { stood := { row := examineJoinsRow, standIns := [], harness := (true, "f6922da9df9e384f0fe76922455b4543eec9cc904989385f5f922365687266e3"), looks := true }, kinds := [], alts := [], laidByText := true, laidKinds := [.data, .data, .data, .sentinel, .sentinel, .data, .data, .data], laidTests := true, laidLooks := .later }
def ExamineJoinsCardSaid : Prop := Claim7.holds Tryd.pinned (.plain (OpenSpec.ofChange examineJoinsSpec)) examineJoinsCard

/-- THE SECOND FORM's CARD OF 'supercargolaw31.ExamineStands'. -/
def examineStandsUptoCard : Claim7 := { stood := { row := examineStandsUptoRow, standIns := [], harness := (true, "f6922da9df9e384f0fe76922455b4543eec9cc904989385f5f922365687266e3"), looks := true }, kinds := [], alts := [], laidByText := true, laidKinds := [.data, .data, .data, .sentinel, .sentinel, .data, .data, .data], laidTests := true, laidLooks := .later }
def ExamineStandsUptoCardSaid : Prop := Claim7.holds Tryd.pinned (.plain (OpenSpec.upto examineStandsSpec)) examineStandsUptoCard

/-- THE SECOND FORM's CARD OF 'supercargolaw31.ExamineTexts'. -/
def examineTextsUptoCard : Claim7 := { stood := { row := examineTextsUptoRow, standIns := [], harness := (true, "f6922da9df9e384f0fe76922455b4543eec9cc904989385f5f922365687266e3"), looks := true }, kinds := [], alts := [], laidByText := true, laidKinds := [.data, .data, .data, .sentinel, .sentinel, .data, .data, .data], laidTests := true, laidLooks := .later }
def ExamineTextsUptoCardSaid : Prop := Claim7.holds Tryd.pinned (.plain (OpenSpec.upto examineTextsSpec)) examineTextsUptoCard

/-- THE SECOND FORM's CARD OF 'supercargolaw31.ExamineTurns'. -/
def examineTurnsUptoCard : Claim7 := { stood := { row := examineTurnsUptoRow, standIns := [], harness := (true, "f6922da9df9e384f0fe76922455b4543eec9cc904989385f5f922365687266e3"), looks := true }, kinds := [], alts := [], laidByText := true, laidKinds := [.data, .data, .data, .sentinel, .sentinel, .data, .data, .data], laidTests := true, laidLooks := .later }
def ExamineTurnsUptoCardSaid : Prop := Claim7.holds Tryd.pinned (.plain (OpenSpec.upto examineTurnsSpec)) examineTurnsUptoCard

/-- THE SECOND FORM's CARD OF 'supercargolaw31.ExamineMore'. -/
def examineMoreUptoCard : Claim7 := { stood := { row := examineMoreUptoRow, standIns := [], harness := (true, "f6922da9df9e384f0fe76922455b4543eec9cc904989385f5f922365687266e3"), looks := true }, kinds := [], alts := [], laidByText := true, laidKinds := [.data, .data, .data, .sentinel, .sentinel, .data, .data, .data], laidTests := true, laidLooks := .later }
def ExamineMoreUptoCardSaid : Prop := Claim7.holds Tryd.pinned (.plain (OpenSpec.upto examineMoreSpec)) examineMoreUptoCard

/-- THE SECOND FORM's CARD OF 'supercargolaw31.ExamineDay'. -/
def examineDayUptoCard : Claim7 := { stood := { row := examineDayUptoRow, standIns := [], harness := (true, "f6922da9df9e384f0fe76922455b4543eec9cc904989385f5f922365687266e3"), looks := true }, kinds := [], alts := [], laidByText := true, laidKinds := [.data, .data, .data, .sentinel, .sentinel, .data, .data, .data], laidTests := true, laidLooks := .later }
def ExamineDayUptoCardSaid : Prop := Claim7.holds Tryd.pinned (.plain (OpenSpec.upto examineDaySpec)) examineDayUptoCard

/-- THE SECOND FORM's CARD OF 'supercargolaw31.ExamineOnce'. -/
def examineOnceUptoCard : Claim7 := { stood := { row := examineOnceUptoRow, standIns := [], harness := (true, "f6922da9df9e384f0fe76922455b4543eec9cc904989385f5f922365687266e3"), looks := true }, kinds := [], alts := [], laidByText := true, laidKinds := [.data, .data, .data, .sentinel, .sentinel, .data, .data, .data], laidTests := true, laidLooks := .later }
def ExamineOnceUptoCardSaid : Prop := Claim7.holds Tryd.pinned (.plain (OpenSpec.upto examineOnceSpec)) examineOnceUptoCard

/-- THE SECOND FORM's CARD OF 'supercargolaw31.ExamineSpoilt'. -/
def examineSpoiltUptoCard : Claim7 := { stood := { row := examineSpoiltUptoRow, standIns := [], harness := (true, "f6922da9df9e384f0fe76922455b4543eec9cc904989385f5f922365687266e3"), looks := true }, kinds := [], alts := [], laidByText := true, laidKinds := [.data, .data, .data, .sentinel, .sentinel, .data, .data, .data], laidTests := true, laidLooks := .later }
def ExamineSpoiltUptoCardSaid : Prop := Claim7.holds Tryd.pinned (.plain (OpenSpec.upto examineSpoiltSpec)) examineSpoiltUptoCard

/-- THE SECOND FORM's CARD OF 'supercargolaw31.ExamineNeeds'. -/
def examineNeedsUptoCard : Claim7 := { stood := { row := examineNeedsUptoRow, standIns := [], harness := (true, "f6922da9df9e384f0fe76922455b4543eec9cc904989385f5f922365687266e3"), looks := true }, kinds := [], alts := [], laidByText := true, laidKinds := [.data, .data, .data, .sentinel, .sentinel, .data, .data, .data], laidTests := true, laidLooks := .later }
def ExamineNeedsUptoCardSaid : Prop := Claim7.holds Tryd.pinned (.plain (OpenSpec.upto examineNeedsSpec)) examineNeedsUptoCard

/-- THE SECOND FORM's CARD OF 'supercargolaw31.ExamineJoins'. -/
def examineJoinsUptoCard : Claim7 := { stood := { row := examineJoinsUptoRow, standIns := [], harness := (true, "f6922da9df9e384f0fe76922455b4543eec9cc904989385f5f922365687266e3"), looks := true }, kinds := [], alts := [], laidByText := true, laidKinds := [.data, .data, .data, .sentinel, .sentinel, .data, .data, .data], laidTests := true, laidLooks := .later }
def ExamineJoinsUptoCardSaid : Prop := Claim7.holds Tryd.pinned (.plain (OpenSpec.upto examineJoinsSpec)) examineJoinsUptoCard
end Rows
end Go.Proofs.YtpnkpnocipkedaaDoor
