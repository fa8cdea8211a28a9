/- The line that awake parses. (Plain: no program.) -/
import Derived.Test.YtheiogafjinihaaDoorJ
namespace Go.Proofs.YtheiogafjinihaaDoor
open Go

def awS : Stp := ⟨0, 0, [97, 110, 110, 97], 2, 0, [100, 48]⟩
def awL : List UInt8 := [97, 99, 116, 32, 97, 110, 110, 97, 32, 115, 104, 105, 112, 32, 100, 48, 32, 48, 10]
theorem itoa_zero : Lib.itoa 0 = [48] := by rw [Lib.itoa, if_neg (by omega)]; exact qdec_small 0 (by omega)
theorem awake_line : linesM [awS] = some awL := by
  have h1 : ((partsL.getD 0 []).all fun p => (showP awS p).2) = true := by
    simp only [show_ok]
    decide
  have h2 : (partsL.getD 0 []).foldl (fun y p => putP awS y p) (stp0 ((0 : Nat) : Int)) = awS := by decide
  have h3 : ((partsL.getD 0 []).map fun p => (showP awS p).1) = [[97, 110, 110, 97], [115, 104, 105, 112], [100, 48], [48]] := by
    show [(showP awS .party).1, (showP awS .act).1, (showP awS .deal).1, (showP awS .cnt).1] = _
    have : (showP awS .cnt).1 = [48] := itoa_zero
    rw [this]
    rfl
  rw [linesM, lineM_kind awS 0 (by omega) rfl, if_pos ⟨h1, h2⟩, h3]
  rfl
theorem awake_parse : parseM awL = ([awS], 1, 0) := parse_back awake_line (by decide)
end Go.Proofs.YtheiogafjinihaaDoor
