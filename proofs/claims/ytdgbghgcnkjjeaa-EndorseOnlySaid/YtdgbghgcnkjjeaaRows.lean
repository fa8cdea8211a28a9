/-
  No cell of these rows narrows 'for every input' (looked for: loops, veiled, ifaces, maps, wideKeys, modest, calm, conditions, laid).
  DERIVED. THE GIVEN ROWS OF THIS SEAT. 4 by the template 'for every input the law returns true; each argument reads behind the call as it read before'; 0 by the template 'total and deterministic' (their statements: YtdgbghgcnkjjeaaTotals.lean).
  GIVEN WITH THE SEED: the statements are not yours to turn. If you find one false, say at which input.
  Laid BY PROGRAM, IN A SANDBOX (cutbox-rows.mjs): the forced cells as the released guide's own fill.sh prints them over the translation b281dff0e60ecc66… (all of the seat's roots in one cut). By AI agents, Wed Nov 11 2026. No macro, syntax, notation, axiom, sorry.
-/
import Derived.Test.YtdgbghgcnkjjeaaChecked
import GoSem.Claim
import GoSem.ClaimJoined
import GoSem.ClaimMapViews
import Derived.JoinedTies
import Derived.KernelRfl
namespace Go.Proofs.Ytdgbghgcnkjjeaa
/- THE CELL 'sum', in the pinned program and in every row, IS THE sha256 OF THE DUMP (.gsa) THAT YtdgbghgcnkjjeaaProg.lean LOADS. Nothing in Lean hashes anything: it is a label: what it is worth is what the hold of that sum in a sandbox is worth. -/
noncomputable def Try.pinned : Pinned := { name := "ytdgbghgcnkjjeaa", sum := "b281dff0e60ecc66aeab10012db1d8ce3c177f1c7b55db13ef765b371cd27026", checked := Try.checked }
namespace Rows
def none {H : Type} : Left H := { results := [], args := [] }

/-- 'supercargolaw22.EndorseChecks': WHATEVER THE INPUT: true; the input reads as it did. -/
def endorseChecksSpec : ChangeSpec := { name := "endorseChecks", fn := fun _ => fun
  | [d1, d2] => { results := [.lit (.bool true)], args := [d1, d2] }
  | _ => none }
def endorseChecksRow : OpenClaim := { program := "ytdgbghgcnkjjeaa", sum := "b281dff0e60ecc66aeab10012db1d8ce3c177f1c7b55db13ef765b371cd27026", func := "supercargo/supercargolaw22.EndorseChecks", spec := "endorseChecks", apart := false }
def EndorseChecksSaid : Prop := endorseChecksRow.holds Try.pinned (OpenSpec.ofChange endorseChecksSpec)

/-- ITS FALSE NEIGHBOUR: 'it returns false'. Refute it at one input. -/
def endorseChecksWrong : ChangeSpec := { name := "endorseChecks", fn := fun _ => fun
  | [d1, d2] => { results := [.lit (.bool false)], args := [d1, d2] }
  | _ => none }
def EndorseChecksWrongFalsely : Prop := endorseChecksRow.holds Try.pinned (OpenSpec.ofChange endorseChecksWrong)

/-- 'supercargolaw22.EndorseCuts': WHATEVER THE INPUT: true; the input reads as it did. -/
def endorseCutsSpec : ChangeSpec := { name := "endorseCuts", fn := fun _ => fun
  | [d1, d2, d3] => { results := [.lit (.bool true)], args := [d1, d2, d3] }
  | _ => none }
def endorseCutsRow : OpenClaim := { program := "ytdgbghgcnkjjeaa", sum := "b281dff0e60ecc66aeab10012db1d8ce3c177f1c7b55db13ef765b371cd27026", func := "supercargo/supercargolaw22.EndorseCuts", spec := "endorseCuts", apart := false }
def EndorseCutsSaid : Prop := endorseCutsRow.holds Try.pinned (OpenSpec.ofChange endorseCutsSpec)

/-- ITS FALSE NEIGHBOUR: 'it returns false'. Refute it at one input. -/
def endorseCutsWrong : ChangeSpec := { name := "endorseCuts", fn := fun _ => fun
  | [d1, d2, d3] => { results := [.lit (.bool false)], args := [d1, d2, d3] }
  | _ => none }
def EndorseCutsWrongFalsely : Prop := endorseCutsRow.holds Try.pinned (OpenSpec.ofChange endorseCutsWrong)

/-- 'supercargolaw22.EndorseMay': WHATEVER THE INPUT: true; the input reads as it did. -/
def endorseMaySpec : ChangeSpec := { name := "endorseMay", fn := fun _ => fun
  | [d1, d2, d3, d4] => { results := [.lit (.bool true)], args := [d1, d2, d3, d4] }
  | _ => none }
def endorseMayRow : OpenClaim := { program := "ytdgbghgcnkjjeaa", sum := "b281dff0e60ecc66aeab10012db1d8ce3c177f1c7b55db13ef765b371cd27026", func := "supercargo/supercargolaw22.EndorseMay", spec := "endorseMay", apart := false }
def EndorseMaySaid : Prop := endorseMayRow.holds Try.pinned (OpenSpec.ofChange endorseMaySpec)

/-- ITS FALSE NEIGHBOUR: 'it returns false'. Refute it at one input. -/
def endorseMayWrong : ChangeSpec := { name := "endorseMay", fn := fun _ => fun
  | [d1, d2, d3, d4] => { results := [.lit (.bool false)], args := [d1, d2, d3, d4] }
  | _ => none }
def EndorseMayWrongFalsely : Prop := endorseMayRow.holds Try.pinned (OpenSpec.ofChange endorseMayWrong)

/-- 'supercargolaw22.EndorseOnly': WHATEVER THE INPUT: true; the input reads as it did. -/
def endorseOnlySpec : ChangeSpec := { name := "endorseOnly", fn := fun _ => fun
  | [d1, d2, d3, d4, d5] => { results := [.lit (.bool true)], args := [d1, d2, d3, d4, d5] }
  | _ => none }
def endorseOnlyRow : OpenClaim := { program := "ytdgbghgcnkjjeaa", sum := "b281dff0e60ecc66aeab10012db1d8ce3c177f1c7b55db13ef765b371cd27026", func := "supercargo/supercargolaw22.EndorseOnly", spec := "endorseOnly", apart := false }
def EndorseOnlySaid : Prop := endorseOnlyRow.holds Try.pinned (OpenSpec.ofChange endorseOnlySpec)

/-- ITS FALSE NEIGHBOUR: 'it returns false'. Refute it at one input. -/
def endorseOnlyWrong : ChangeSpec := { name := "endorseOnly", fn := fun _ => fun
  | [d1, d2, d3, d4, d5] => { results := [.lit (.bool false)], args := [d1, d2, d3, d4, d5] }
  | _ => none }
def EndorseOnlyWrongFalsely : Prop := endorseOnlyRow.holds Try.pinned (OpenSpec.ofChange endorseOnlyWrong)

/- THE SECOND FORM. 'bulk': how many values and letters a reading holds, each counted each time it is reached (what is shared counts as often as it is met; a slice's spare places count too). A statement '..UptoSaid' is the law's where the arguments, and the package variables that the reading takes, are together of bulk at most 1048576: NARROWER than '..Said'. Prove '..Said' where nothing that the law and all that it calls make is longer than what came in: it says more and counts as full. Else prove '..UptoSaid'. A law counts once. -/
mutual
def uptoBulk {H : Type} : DataW H → Nat
  | .lit (.string bytes) => bytes.length + 1
  | .lit _ => 1
  | .nil => 1
  | .ptr d => uptoBulk d + 1
  | .slice elems spare => uptoBulkAll elems + uptoBulkAll spare + 1
  | .agg parts => uptoBulkAll parts + 1
  | .iface _ d => uptoBulk d + 1
  | .map entries => uptoBulkEntries entries + 1
  | .held _ => 1
def uptoBulkAll {H : Type} : List (DataW H) → Nat
  | [] => 0
  | d :: r => uptoBulk d + uptoBulkAll r
def uptoBulkEntries {H : Type} : List (Lit × DataW H) → Nat
  | [] => 0
  | x :: r => uptoBulkEntry x + uptoBulkEntries r
def uptoBulkEntry {H : Type} : Lit × DataW H → Nat
  | (.string bytes, d) => bytes.length + uptoBulk d + 1
  | (_, d) => uptoBulk d + 1
 end
def uptoSmall : (H : Type) → List (DataW H) → Bool := fun _ ds => decide (uptoBulkAll ds ≤ 1048576)
def OpenSpec.upto (s : _root_.Go.ChangeSpec) : _root_.Go.OpenSpec := { _root_.Go.OpenSpec.ofChange s with cond := some uptoSmall }

/-- 'supercargolaw22.EndorseChecks', WHERE WHAT IT READS IS OF BULK AT MOST 1048576: true; the input reads as it did. -/
def endorseChecksUptoRow : OpenClaim := { program := "ytdgbghgcnkjjeaa", sum := "b281dff0e60ecc66aeab10012db1d8ce3c177f1c7b55db13ef765b371cd27026", func := "supercargo/supercargolaw22.EndorseChecks", spec := "endorseChecks", apart := false, narrowed := true }
def EndorseChecksUptoSaid : Prop := endorseChecksUptoRow.holds Try.pinned (OpenSpec.upto endorseChecksSpec)

/-- 'supercargolaw22.EndorseCuts', WHERE WHAT IT READS IS OF BULK AT MOST 1048576: true; the input reads as it did. -/
def endorseCutsUptoRow : OpenClaim := { program := "ytdgbghgcnkjjeaa", sum := "b281dff0e60ecc66aeab10012db1d8ce3c177f1c7b55db13ef765b371cd27026", func := "supercargo/supercargolaw22.EndorseCuts", spec := "endorseCuts", apart := false, narrowed := true }
def EndorseCutsUptoSaid : Prop := endorseCutsUptoRow.holds Try.pinned (OpenSpec.upto endorseCutsSpec)

/-- 'supercargolaw22.EndorseMay', WHERE WHAT IT READS IS OF BULK AT MOST 1048576: true; the input reads as it did. -/
def endorseMayUptoRow : OpenClaim := { program := "ytdgbghgcnkjjeaa", sum := "b281dff0e60ecc66aeab10012db1d8ce3c177f1c7b55db13ef765b371cd27026", func := "supercargo/supercargolaw22.EndorseMay", spec := "endorseMay", apart := false, narrowed := true }
def EndorseMayUptoSaid : Prop := endorseMayUptoRow.holds Try.pinned (OpenSpec.upto endorseMaySpec)

/-- 'supercargolaw22.EndorseOnly', WHERE WHAT IT READS IS OF BULK AT MOST 1048576: true; the input reads as it did. -/
def endorseOnlyUptoRow : OpenClaim := { program := "ytdgbghgcnkjjeaa", sum := "b281dff0e60ecc66aeab10012db1d8ce3c177f1c7b55db13ef765b371cd27026", func := "supercargo/supercargolaw22.EndorseOnly", spec := "endorseOnly", apart := false, narrowed := true }
def EndorseOnlyUptoSaid : Prop := endorseOnlyUptoRow.holds Try.pinned (OpenSpec.upto endorseOnlySpec)

end Rows
end Go.Proofs.Ytdgbghgcnkjjeaa
