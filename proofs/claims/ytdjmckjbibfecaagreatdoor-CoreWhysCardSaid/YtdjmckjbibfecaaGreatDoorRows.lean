/-
  NARROWER THAN 'FOR EVERY INPUT', by the rows' own cells (each row's printed sentence says how): CoreCores: loops, laid · CoreEnough: loops, laid · CoreWaives: loops, laid · CoreFiner: loops, laid · CoreMends: loops, laid · CoreGone: loops, laid · CoreWhys: loops, laid · CoreFine: loops, laid.
  DERIVED. THE GIVEN ROWS OF THIS SEAT. 8 by the template 'for every input the law returns true; each argument reads behind the call as it read before'; 0 by the template 'total and deterministic' (their statements: YtdjmckjbibfecaaGreatDoorTotals.lean).
  GIVEN WITH THE SEED: the statements are not yours to turn. If you find one false, say at which input.
  Laid BY PROGRAM, IN A SANDBOX (cutbox-rows.mjs): the forced cells as the released guide's own fill.sh prints them over the translation 0905f5a5423a94b2… (all of the seat's roots in one cut). By AI agents, Wed Nov 11 2026. No macro, syntax, notation, axiom, sorry.
-/
import Derived.Test.YtdjmckjbibfecaaGreatDoorChecked
import GoSem.Claim
import GoSem.ClaimJoined
import GoSem.ClaimMapViews
import Derived.JoinedTies
import Derived.KernelRfl
namespace Go.Proofs.YtdjmckjbibfecaaGreatDoor
/- THE CELL 'sum', in the pinned program and in every row, IS THE sha256 OF THE DUMP (.gsa) THAT YtdjmckjbibfecaaGreatDoorProg.lean LOADS. Nothing in Lean hashes anything: it is a label: what it is worth is what the hold of that sum in a sandbox is worth. -/
noncomputable def Tryz.pinned : Pinned := { name := "ytdjmckjbibfecaagreatdoor", sum := "0905f5a5423a94b273f8031603f1d867c1aab93af679d2f615a9d4ebcee2b52a", checked := Tryz.checked }
namespace Rows
def none {H : Type} : Left H := { results := [], args := [] }

/- WHAT THE LISTED PACKAGE-LEVEL VARIABLES READ AS WHEN THE CALL BEGINS. Each datum BY PROGRAM (the guide's laid-datum.mjs) off the statement by which the dump's own 'gosem.cut.vars' lays the variable. In a bare row this is a premise. The card (YtdjmckjbibfecaaGreatDoorCards.lean) ties it to the program's text. -/
def laid_math_bits_deBruijn32tab {H : Type} : DataW H := .agg [.lit (.int .u8 0), .lit (.int .u8 1), .lit (.int .u8 28), .lit (.int .u8 2), .lit (.int .u8 29), .lit (.int .u8 14), .lit (.int .u8 24), .lit (.int .u8 3), .lit (.int .u8 30), .lit (.int .u8 22), .lit (.int .u8 20), .lit (.int .u8 15), .lit (.int .u8 25), .lit (.int .u8 17), .lit (.int .u8 4), .lit (.int .u8 8), .lit (.int .u8 31), .lit (.int .u8 27), .lit (.int .u8 13), .lit (.int .u8 23), .lit (.int .u8 21), .lit (.int .u8 19), .lit (.int .u8 16), .lit (.int .u8 7), .lit (.int .u8 26), .lit (.int .u8 12), .lit (.int .u8 18), .lit (.int .u8 6), .lit (.int .u8 11), .lit (.int .u8 5), .lit (.int .u8 10), .lit (.int .u8 9)]
def laid_math_bits_deBruijn64tab {H : Type} : DataW H := .agg [.lit (.int .u8 0), .lit (.int .u8 1), .lit (.int .u8 56), .lit (.int .u8 2), .lit (.int .u8 57), .lit (.int .u8 49), .lit (.int .u8 28), .lit (.int .u8 3), .lit (.int .u8 61), .lit (.int .u8 58), .lit (.int .u8 42), .lit (.int .u8 50), .lit (.int .u8 38), .lit (.int .u8 29), .lit (.int .u8 17), .lit (.int .u8 4), .lit (.int .u8 62), .lit (.int .u8 47), .lit (.int .u8 59), .lit (.int .u8 36), .lit (.int .u8 45), .lit (.int .u8 43), .lit (.int .u8 51), .lit (.int .u8 22), .lit (.int .u8 53), .lit (.int .u8 39), .lit (.int .u8 33), .lit (.int .u8 30), .lit (.int .u8 24), .lit (.int .u8 18), .lit (.int .u8 12), .lit (.int .u8 5), .lit (.int .u8 63), .lit (.int .u8 55), .lit (.int .u8 48), .lit (.int .u8 27), .lit (.int .u8 60), .lit (.int .u8 41), .lit (.int .u8 37), .lit (.int .u8 16), .lit (.int .u8 46), .lit (.int .u8 35), .lit (.int .u8 44), .lit (.int .u8 21), .lit (.int .u8 52), .lit (.int .u8 32), .lit (.int .u8 23), .lit (.int .u8 11), .lit (.int .u8 54), .lit (.int .u8 26), .lit (.int .u8 40), .lit (.int .u8 15), .lit (.int .u8 34), .lit (.int .u8 20), .lit (.int .u8 31), .lit (.int .u8 10), .lit (.int .u8 25), .lit (.int .u8 14), .lit (.int .u8 19), .lit (.int .u8 9), .lit (.int .u8 13), .lit (.int .u8 8), .lit (.int .u8 7), .lit (.int .u8 6)]
def laid_internal_strconv_uint64pow10 {H : Type} : DataW H := .agg [.lit (.int .u64 1), .lit (.int .u64 10), .lit (.int .u64 100), .lit (.int .u64 1000), .lit (.int .u64 10000), .lit (.int .u64 100000), .lit (.int .u64 1000000), .lit (.int .u64 10000000), .lit (.int .u64 100000000), .lit (.int .u64 1000000000), .lit (.int .u64 10000000000), .lit (.int .u64 100000000000), .lit (.int .u64 1000000000000), .lit (.int .u64 10000000000000), .lit (.int .u64 100000000000000), .lit (.int .u64 1000000000000000), .lit (.int .u64 10000000000000000), .lit (.int .u64 100000000000000000), .lit (.int .u64 1000000000000000000), .lit (.int .u64 10000000000000000000)]
def laid_strconv_ErrRange {H : Type} : DataW H := .iface "*errors.errorString" (.ptr (.agg [.lit (.string [118, 97, 108, 117, 101, 32, 111, 117, 116, 32, 111, 102, 32, 114, 97, 110, 103, 101])]))
def laid_strconv_ErrSyntax {H : Type} : DataW H := .iface "*errors.errorString" (.ptr (.agg [.lit (.string [105, 110, 118, 97, 108, 105, 100, 32, 115, 121, 110, 116, 97, 120])]))
def laid_supercargo_examine_alike {H : Type} : DataW H := .agg [.lit (.string [115, 101, 108, 108, 101, 114]), .lit (.string [102, 114, 111, 109]), .lit (.string [116, 111]), .lit (.string [99, 117, 114, 114, 101, 110, 99, 121]), .lit (.string [98, 111, 120, 101, 115]), .lit (.string [109, 97, 114, 107, 115])]
def laid_supercargo_core_alike {H : Type} : DataW H := .agg [.lit (.string [115, 101, 108, 108, 101, 114]), .lit (.string [102, 114, 111, 109]), .lit (.string [116, 111]), .lit (.string [99, 117, 114, 114, 101, 110, 99, 121]), .lit (.string [98, 111, 120, 101, 115]), .lit (.string [109, 97, 114, 107, 115])]
def laid_supercargo_examine_kinds {H : Type} : DataW H := .agg [.lit (.string [105, 110, 118, 111, 105, 99, 101]), .lit (.string [112, 97, 99, 107, 105, 110, 103]), .lit (.string [108, 97, 100, 105, 110, 103]), .lit (.string [105, 110, 115, 117, 114, 97, 110, 99, 101]), .lit (.string [111, 114, 105, 103, 105, 110]), .lit (.string [100, 114, 97, 102, 116])]
def laid_supercargo_examine_whys {H : Type} : DataW H := .agg [.lit (.string [102, 105, 110, 101]), .lit (.string [108, 97, 99, 107, 115]), .lit (.string [102, 97, 105, 108, 115]), .lit (.string [117, 110, 108, 105, 107, 101]), .lit (.string [108, 97, 116, 101]), .lit (.string [109, 117, 99, 104]), .lit (.string [102, 101, 119])]
def laid_supercargo_token_words {H : Type} : DataW H := .agg [.lit (.string [97, 98, 111, 118, 101]), .lit (.string [97, 108, 108]), .lit (.string [97, 110, 100]), .lit (.string [97, 110, 121]), .lit (.string [97, 112, 112, 108, 105, 99, 97, 110, 116]), .lit (.string [98, 101, 108, 111, 119]), .lit (.string [98, 101, 110, 101, 102, 105, 99, 105, 97, 114, 121]), .lit (.string [99, 104, 97, 110, 103, 101]), .lit (.string [99, 111, 110, 102, 105, 114, 109, 101, 114]), .lit (.string [99, 111, 112, 105, 101, 115]), .lit (.string [99, 114, 101, 100, 105, 116]), .lit (.string [100, 97, 121, 115]), .lit (.string [100, 114, 97, 102, 116]), .lit (.string [101, 120, 112, 105, 114, 121]), .lit (.string [102, 114, 111, 109]), .lit (.string [105, 110, 115, 117, 114, 97, 110, 99, 101]), .lit (.string [105, 110, 118, 111, 105, 99, 101]), .lit (.string [105, 115, 115, 117, 101, 114]), .lit (.string [108, 97, 100, 105, 110, 103]), .lit (.string [108, 97, 116, 101, 115, 116]), .lit (.string [110, 111]), .lit (.string [110, 111, 116]), .lit (.string [111, 102]), .lit (.string [111, 114]), .lit (.string [111, 114, 105, 103, 105, 110]), .lit (.string [112, 97, 99, 107, 105, 110, 103]), .lit (.string [112, 97, 114, 116, 105, 97, 108]), .lit (.string [115, 105, 103, 104, 116]), .lit (.string [115, 117, 109]), .lit (.string [116, 101, 110, 111, 114]), .lit (.string [116, 111]), .lit (.string [119, 97, 110, 116, 115]), .lit (.string [119, 105, 116, 104]), .lit (.string [119, 105, 116, 104, 105, 110]), .lit (.string [121, 101, 115])]
def laid_supercargo_syntax_papers {H : Type} : DataW H := .agg [.lit (.string [105, 110, 118, 111, 105, 99, 101]), .lit (.string [112, 97, 99, 107, 105, 110, 103]), .lit (.string [108, 97, 100, 105, 110, 103]), .lit (.string [105, 110, 115, 117, 114, 97, 110, 99, 101]), .lit (.string [111, 114, 105, 103, 105, 110]), .lit (.string [100, 114, 97, 102, 116])]

/-- 'supercargolaw32.CoreCores': WHATEVER THE INPUT: true; the input reads as it did. -/
def coreCoresSpec : ChangeSpec := { name := "coreCores", fn := fun _ => fun
  | [d1, d2, d3] => { results := [.lit (.bool true)], args := [d1, d2, d3] }
  | _ => none }
def coreCoresRow : OpenClaim := { program := "ytdjmckjbibfecaagreatdoor", sum := "0905f5a5423a94b273f8031603f1d867c1aab93af679d2f615a9d4ebcee2b52a", func := "supercargo/supercargolaw32.CoreCores", spec := "coreCores", inPlace := ["internal/bytealg.IndexByteString", "internal/bytealg.IndexString"], unfollowed := true, recurses := true, named := ["internal/bytealg.MaxLen", "strconv.ErrSyntax", "strconv.ErrRange", "internal/strconv.uint64pow10", "math/bits.deBruijn32tab", "math/bits.deBruijn64tab"], loops := true, plainKeys := false, apart := false, laid := [("math/bits.deBruijn32tab", laid_math_bits_deBruijn32tab), ("math/bits.deBruijn64tab", laid_math_bits_deBruijn64tab), ("internal/strconv.uint64pow10", laid_internal_strconv_uint64pow10), ("strconv.ErrRange", laid_strconv_ErrRange), ("strconv.ErrSyntax", laid_strconv_ErrSyntax)] }
def CoreCoresSaid : Prop := coreCoresRow.holds Tryz.pinned (OpenSpec.ofChange coreCoresSpec)

/-- ITS FALSE NEIGHBOUR: 'it returns false'. Refute it at one input. -/
def coreCoresWrong : ChangeSpec := { name := "coreCores", fn := fun _ => fun
  | [d1, d2, d3] => { results := [.lit (.bool false)], args := [d1, d2, d3] }
  | _ => none }
def CoreCoresWrongFalsely : Prop := coreCoresRow.holds Tryz.pinned (OpenSpec.ofChange coreCoresWrong)

/-- 'supercargolaw32.CoreEnough': WHATEVER THE INPUT: true; the input reads as it did. -/
def coreEnoughSpec : ChangeSpec := { name := "coreEnough", fn := fun _ => fun
  | [d1, d2, d3, d4] => { results := [.lit (.bool true)], args := [d1, d2, d3, d4] }
  | _ => none }
def coreEnoughRow : OpenClaim := { program := "ytdjmckjbibfecaagreatdoor", sum := "0905f5a5423a94b273f8031603f1d867c1aab93af679d2f615a9d4ebcee2b52a", func := "supercargo/supercargolaw32.CoreEnough", spec := "coreEnough", inPlace := ["internal/bytealg.IndexByteString", "internal/bytealg.IndexString"], unfollowed := true, recurses := true, named := ["internal/bytealg.MaxLen", "strconv.ErrSyntax", "strconv.ErrRange", "internal/strconv.uint64pow10", "math/bits.deBruijn32tab", "math/bits.deBruijn64tab"], loops := true, plainKeys := false, apart := false, laid := [("math/bits.deBruijn32tab", laid_math_bits_deBruijn32tab), ("math/bits.deBruijn64tab", laid_math_bits_deBruijn64tab), ("internal/strconv.uint64pow10", laid_internal_strconv_uint64pow10), ("strconv.ErrRange", laid_strconv_ErrRange), ("strconv.ErrSyntax", laid_strconv_ErrSyntax)] }
def CoreEnoughSaid : Prop := coreEnoughRow.holds Tryz.pinned (OpenSpec.ofChange coreEnoughSpec)

/-- ITS FALSE NEIGHBOUR: 'it returns false'. Refute it at one input. -/
def coreEnoughWrong : ChangeSpec := { name := "coreEnough", fn := fun _ => fun
  | [d1, d2, d3, d4] => { results := [.lit (.bool false)], args := [d1, d2, d3, d4] }
  | _ => none }
def CoreEnoughWrongFalsely : Prop := coreEnoughRow.holds Tryz.pinned (OpenSpec.ofChange coreEnoughWrong)

/-- 'supercargolaw32.CoreWaives': WHATEVER THE INPUT: true; the input reads as it did. -/
def coreWaivesSpec : ChangeSpec := { name := "coreWaives", fn := fun _ => fun
  | [d1, d2, d3, d4, d5] => { results := [.lit (.bool true)], args := [d1, d2, d3, d4, d5] }
  | _ => none }
def coreWaivesRow : OpenClaim := { program := "ytdjmckjbibfecaagreatdoor", sum := "0905f5a5423a94b273f8031603f1d867c1aab93af679d2f615a9d4ebcee2b52a", func := "supercargo/supercargolaw32.CoreWaives", spec := "coreWaives", inPlace := ["internal/bytealg.IndexByteString", "internal/bytealg.IndexString"], unfollowed := true, recurses := true, named := ["internal/bytealg.MaxLen", "strconv.ErrSyntax", "strconv.ErrRange", "internal/strconv.uint64pow10", "math/bits.deBruijn32tab", "math/bits.deBruijn64tab", "supercargo/examine.alike"], loops := true, plainKeys := false, apart := false, laid := [("math/bits.deBruijn32tab", laid_math_bits_deBruijn32tab), ("math/bits.deBruijn64tab", laid_math_bits_deBruijn64tab), ("internal/strconv.uint64pow10", laid_internal_strconv_uint64pow10), ("strconv.ErrRange", laid_strconv_ErrRange), ("strconv.ErrSyntax", laid_strconv_ErrSyntax), ("supercargo/examine.alike", laid_supercargo_examine_alike)] }
def CoreWaivesSaid : Prop := coreWaivesRow.holds Tryz.pinned (OpenSpec.ofChange coreWaivesSpec)

/-- ITS FALSE NEIGHBOUR: 'it returns false'. Refute it at one input. -/
def coreWaivesWrong : ChangeSpec := { name := "coreWaives", fn := fun _ => fun
  | [d1, d2, d3, d4, d5] => { results := [.lit (.bool false)], args := [d1, d2, d3, d4, d5] }
  | _ => none }
def CoreWaivesWrongFalsely : Prop := coreWaivesRow.holds Tryz.pinned (OpenSpec.ofChange coreWaivesWrong)

/-- 'supercargolaw32.CoreFiner': WHATEVER THE INPUT: true; the input reads as it did. -/
def coreFinerSpec : ChangeSpec := { name := "coreFiner", fn := fun _ => fun
  | [d1, d2, d3] => { results := [.lit (.bool true)], args := [d1, d2, d3] }
  | _ => none }
def coreFinerRow : OpenClaim := { program := "ytdjmckjbibfecaagreatdoor", sum := "0905f5a5423a94b273f8031603f1d867c1aab93af679d2f615a9d4ebcee2b52a", func := "supercargo/supercargolaw32.CoreFiner", spec := "coreFiner", inPlace := ["internal/bytealg.IndexByteString", "internal/bytealg.IndexString"], unfollowed := true, recurses := true, named := ["internal/bytealg.MaxLen", "strconv.ErrSyntax", "strconv.ErrRange", "internal/strconv.uint64pow10", "math/bits.deBruijn32tab", "math/bits.deBruijn64tab", "supercargo/examine.alike"], loops := true, plainKeys := false, apart := false, laid := [("math/bits.deBruijn32tab", laid_math_bits_deBruijn32tab), ("math/bits.deBruijn64tab", laid_math_bits_deBruijn64tab), ("internal/strconv.uint64pow10", laid_internal_strconv_uint64pow10), ("strconv.ErrRange", laid_strconv_ErrRange), ("strconv.ErrSyntax", laid_strconv_ErrSyntax), ("supercargo/examine.alike", laid_supercargo_examine_alike)] }
def CoreFinerSaid : Prop := coreFinerRow.holds Tryz.pinned (OpenSpec.ofChange coreFinerSpec)

/-- ITS FALSE NEIGHBOUR: 'it returns false'. Refute it at one input. -/
def coreFinerWrong : ChangeSpec := { name := "coreFiner", fn := fun _ => fun
  | [d1, d2, d3] => { results := [.lit (.bool false)], args := [d1, d2, d3] }
  | _ => none }
def CoreFinerWrongFalsely : Prop := coreFinerRow.holds Tryz.pinned (OpenSpec.ofChange coreFinerWrong)

/-- 'supercargolaw32.CoreMends': WHATEVER THE INPUT: true; the input reads as it did. -/
def coreMendsSpec : ChangeSpec := { name := "coreMends", fn := fun _ => fun
  | [d1, d2, d3, d4] => { results := [.lit (.bool true)], args := [d1, d2, d3, d4] }
  | _ => none }
def coreMendsRow : OpenClaim := { program := "ytdjmckjbibfecaagreatdoor", sum := "0905f5a5423a94b273f8031603f1d867c1aab93af679d2f615a9d4ebcee2b52a", func := "supercargo/supercargolaw32.CoreMends", spec := "coreMends", inPlace := ["internal/bytealg.IndexByteString", "internal/bytealg.IndexString"], unfollowed := true, recurses := true, named := ["internal/bytealg.MaxLen", "strconv.ErrSyntax", "strconv.ErrRange", "internal/strconv.uint64pow10", "math/bits.deBruijn32tab", "math/bits.deBruijn64tab", "supercargo/core.alike", "supercargo/examine.alike"], loops := true, plainKeys := false, apart := false, laid := [("math/bits.deBruijn32tab", laid_math_bits_deBruijn32tab), ("math/bits.deBruijn64tab", laid_math_bits_deBruijn64tab), ("internal/strconv.uint64pow10", laid_internal_strconv_uint64pow10), ("strconv.ErrRange", laid_strconv_ErrRange), ("strconv.ErrSyntax", laid_strconv_ErrSyntax), ("supercargo/examine.alike", laid_supercargo_examine_alike), ("supercargo/core.alike", laid_supercargo_core_alike)] }
def CoreMendsSaid : Prop := coreMendsRow.holds Tryz.pinned (OpenSpec.ofChange coreMendsSpec)

/-- ITS FALSE NEIGHBOUR: 'it returns false'. Refute it at one input. -/
def coreMendsWrong : ChangeSpec := { name := "coreMends", fn := fun _ => fun
  | [d1, d2, d3, d4] => { results := [.lit (.bool false)], args := [d1, d2, d3, d4] }
  | _ => none }
def CoreMendsWrongFalsely : Prop := coreMendsRow.holds Tryz.pinned (OpenSpec.ofChange coreMendsWrong)

/-- 'supercargolaw32.CoreGone': WHATEVER THE INPUT: true; the input reads as it did. -/
def coreGoneSpec : ChangeSpec := { name := "coreGone", fn := fun _ => fun
  | [d1, d2, d3, d4] => { results := [.lit (.bool true)], args := [d1, d2, d3, d4] }
  | _ => none }
def coreGoneRow : OpenClaim := { program := "ytdjmckjbibfecaagreatdoor", sum := "0905f5a5423a94b273f8031603f1d867c1aab93af679d2f615a9d4ebcee2b52a", func := "supercargo/supercargolaw32.CoreGone", spec := "coreGone", inPlace := ["internal/bytealg.IndexByteString", "internal/bytealg.IndexString"], unfollowed := true, recurses := true, named := ["internal/bytealg.MaxLen", "strconv.ErrSyntax", "strconv.ErrRange", "internal/strconv.uint64pow10", "math/bits.deBruijn32tab", "math/bits.deBruijn64tab", "supercargo/examine.alike", "supercargo/core.alike"], loops := true, plainKeys := false, apart := false, laid := [("math/bits.deBruijn32tab", laid_math_bits_deBruijn32tab), ("math/bits.deBruijn64tab", laid_math_bits_deBruijn64tab), ("internal/strconv.uint64pow10", laid_internal_strconv_uint64pow10), ("strconv.ErrRange", laid_strconv_ErrRange), ("strconv.ErrSyntax", laid_strconv_ErrSyntax), ("supercargo/examine.alike", laid_supercargo_examine_alike), ("supercargo/core.alike", laid_supercargo_core_alike)] }
def CoreGoneSaid : Prop := coreGoneRow.holds Tryz.pinned (OpenSpec.ofChange coreGoneSpec)

/-- ITS FALSE NEIGHBOUR: 'it returns false'. Refute it at one input. -/
def coreGoneWrong : ChangeSpec := { name := "coreGone", fn := fun _ => fun
  | [d1, d2, d3, d4] => { results := [.lit (.bool false)], args := [d1, d2, d3, d4] }
  | _ => none }
def CoreGoneWrongFalsely : Prop := coreGoneRow.holds Tryz.pinned (OpenSpec.ofChange coreGoneWrong)

/-- 'supercargolaw32.CoreWhys': WHATEVER THE INPUT: true; the input reads as it did. -/
def coreWhysSpec : ChangeSpec := { name := "coreWhys", fn := fun _ => fun
  | [d1, d2, d3] => { results := [.lit (.bool true)], args := [d1, d2, d3] }
  | _ => none }
def coreWhysRow : OpenClaim := { program := "ytdjmckjbibfecaagreatdoor", sum := "0905f5a5423a94b273f8031603f1d867c1aab93af679d2f615a9d4ebcee2b52a", func := "supercargo/supercargolaw32.CoreWhys", spec := "coreWhys", inPlace := ["internal/bytealg.IndexByteString", "internal/bytealg.IndexString", "internal/abi.NoEscape", "internal/bytealg.MakeNoZero"], unfollowed := true, recurses := true, named := ["internal/bytealg.MaxLen", "strconv.ErrSyntax", "strconv.ErrRange", "internal/strconv.uint64pow10", "math/bits.deBruijn32tab", "math/bits.deBruijn64tab", "supercargo/examine.alike", "supercargo/examine.kinds", "supercargo/examine.whys", "supercargo/token.words", "supercargo/syntax.papers"], loops := true, plainKeys := false, apart := false, laid := [("math/bits.deBruijn32tab", laid_math_bits_deBruijn32tab), ("math/bits.deBruijn64tab", laid_math_bits_deBruijn64tab), ("internal/strconv.uint64pow10", laid_internal_strconv_uint64pow10), ("strconv.ErrRange", laid_strconv_ErrRange), ("strconv.ErrSyntax", laid_strconv_ErrSyntax), ("supercargo/examine.kinds", laid_supercargo_examine_kinds), ("supercargo/examine.whys", laid_supercargo_examine_whys), ("supercargo/examine.alike", laid_supercargo_examine_alike), ("supercargo/token.words", laid_supercargo_token_words), ("supercargo/syntax.papers", laid_supercargo_syntax_papers)] }
def CoreWhysSaid : Prop := coreWhysRow.holds Tryz.pinned (OpenSpec.ofChange coreWhysSpec)

/-- ITS FALSE NEIGHBOUR: 'it returns false'. Refute it at one input. -/
def coreWhysWrong : ChangeSpec := { name := "coreWhys", fn := fun _ => fun
  | [d1, d2, d3] => { results := [.lit (.bool false)], args := [d1, d2, d3] }
  | _ => none }
def CoreWhysWrongFalsely : Prop := coreWhysRow.holds Tryz.pinned (OpenSpec.ofChange coreWhysWrong)

/-- 'supercargolaw32.CoreFine': WHATEVER THE INPUT: true; the input reads as it did. -/
def coreFineSpec : ChangeSpec := { name := "coreFine", fn := fun _ => fun
  | [d1, d2, d3] => { results := [.lit (.bool true)], args := [d1, d2, d3] }
  | _ => none }
def coreFineRow : OpenClaim := { program := "ytdjmckjbibfecaagreatdoor", sum := "0905f5a5423a94b273f8031603f1d867c1aab93af679d2f615a9d4ebcee2b52a", func := "supercargo/supercargolaw32.CoreFine", spec := "coreFine", inPlace := ["internal/bytealg.IndexByteString", "internal/bytealg.IndexString", "internal/abi.NoEscape", "internal/bytealg.MakeNoZero"], unfollowed := true, recurses := true, named := ["internal/bytealg.MaxLen", "strconv.ErrSyntax", "strconv.ErrRange", "internal/strconv.uint64pow10", "math/bits.deBruijn32tab", "math/bits.deBruijn64tab", "supercargo/examine.alike", "supercargo/core.alike", "supercargo/examine.kinds", "supercargo/examine.whys", "supercargo/token.words", "supercargo/syntax.papers"], loops := true, plainKeys := false, apart := false, laid := [("math/bits.deBruijn32tab", laid_math_bits_deBruijn32tab), ("math/bits.deBruijn64tab", laid_math_bits_deBruijn64tab), ("internal/strconv.uint64pow10", laid_internal_strconv_uint64pow10), ("strconv.ErrRange", laid_strconv_ErrRange), ("strconv.ErrSyntax", laid_strconv_ErrSyntax), ("supercargo/examine.kinds", laid_supercargo_examine_kinds), ("supercargo/examine.whys", laid_supercargo_examine_whys), ("supercargo/examine.alike", laid_supercargo_examine_alike), ("supercargo/token.words", laid_supercargo_token_words), ("supercargo/syntax.papers", laid_supercargo_syntax_papers), ("supercargo/core.alike", laid_supercargo_core_alike)] }
def CoreFineSaid : Prop := coreFineRow.holds Tryz.pinned (OpenSpec.ofChange coreFineSpec)

/-- ITS FALSE NEIGHBOUR: 'it returns false'. Refute it at one input. -/
def coreFineWrong : ChangeSpec := { name := "coreFine", fn := fun _ => fun
  | [d1, d2, d3] => { results := [.lit (.bool false)], args := [d1, d2, d3] }
  | _ => none }
def CoreFineWrongFalsely : Prop := coreFineRow.holds Tryz.pinned (OpenSpec.ofChange coreFineWrong)

/- THE SECOND FORM. 'bulk': how many values and letters a reading holds, each counted each time it is reached (what is shared counts as often as it is met; a slice's spare places count too). A statement '..UptoSaid' is the law's where the arguments, and the package variables that the reading takes, are together of bulk at most 1048576: NARROWER than '..Said'. Prove '..Said' where nothing that the law and all that it calls make is longer than what came in: it says more and counts as full. Else prove '..UptoSaid'. A law counts once. -/
mutual
def uptoBulk {H : Type} : DataW H → Nat
  | .lit (.string bytes) => bytes.length + 1
  | .lit _ => 1
  | .nil => 1
  | .ptr d => uptoBulk d + 1
  | .slice elems spare => uptoBulkAll elems + uptoBulkAll spare + 1
  | .agg parts => uptoBulkAll parts + 1
  | .iface _ d => uptoBulk d + 1
  | .map entries => uptoBulkEntries entries + 1
  | .held _ => 1
def uptoBulkAll {H : Type} : List (DataW H) → Nat
  | [] => 0
  | d :: r => uptoBulk d + uptoBulkAll r
def uptoBulkEntries {H : Type} : List (Lit × DataW H) → Nat
  | [] => 0
  | x :: r => uptoBulkEntry x + uptoBulkEntries r
def uptoBulkEntry {H : Type} : Lit × DataW H → Nat
  | (.string bytes, d) => bytes.length + uptoBulk d + 1
  | (_, d) => uptoBulk d + 1
 end
def uptoSmall : (H : Type) → List (DataW H) → Bool := fun _ ds => decide (uptoBulkAll ds ≤ 1048576)
def OpenSpec.upto (s : _root_.Go.ChangeSpec) : _root_.Go.OpenSpec := { _root_.Go.OpenSpec.ofChange s with cond := some uptoSmall }

/-- 'supercargolaw32.CoreCores', WHERE WHAT IT READS IS OF BULK AT MOST 1048576: true; the input reads as it did. -/
def coreCoresUptoRow : OpenClaim := { program := "ytdjmckjbibfecaagreatdoor", sum := "0905f5a5423a94b273f8031603f1d867c1aab93af679d2f615a9d4ebcee2b52a", func := "supercargo/supercargolaw32.CoreCores", spec := "coreCores", inPlace := ["internal/bytealg.IndexByteString", "internal/bytealg.IndexString"], unfollowed := true, recurses := true, named := ["internal/bytealg.MaxLen", "strconv.ErrSyntax", "strconv.ErrRange", "internal/strconv.uint64pow10", "math/bits.deBruijn32tab", "math/bits.deBruijn64tab"], loops := true, plainKeys := false, apart := false, laid := [("math/bits.deBruijn32tab", laid_math_bits_deBruijn32tab), ("math/bits.deBruijn64tab", laid_math_bits_deBruijn64tab), ("internal/strconv.uint64pow10", laid_internal_strconv_uint64pow10), ("strconv.ErrRange", laid_strconv_ErrRange), ("strconv.ErrSyntax", laid_strconv_ErrSyntax)], narrowed := true }
def CoreCoresUptoSaid : Prop := coreCoresUptoRow.holds Tryz.pinned (OpenSpec.upto coreCoresSpec)

/-- 'supercargolaw32.CoreEnough', WHERE WHAT IT READS IS OF BULK AT MOST 1048576: true; the input reads as it did. -/
def coreEnoughUptoRow : OpenClaim := { program := "ytdjmckjbibfecaagreatdoor", sum := "0905f5a5423a94b273f8031603f1d867c1aab93af679d2f615a9d4ebcee2b52a", func := "supercargo/supercargolaw32.CoreEnough", spec := "coreEnough", inPlace := ["internal/bytealg.IndexByteString", "internal/bytealg.IndexString"], unfollowed := true, recurses := true, named := ["internal/bytealg.MaxLen", "strconv.ErrSyntax", "strconv.ErrRange", "internal/strconv.uint64pow10", "math/bits.deBruijn32tab", "math/bits.deBruijn64tab"], loops := true, plainKeys := false, apart := false, laid := [("math/bits.deBruijn32tab", laid_math_bits_deBruijn32tab), ("math/bits.deBruijn64tab", laid_math_bits_deBruijn64tab), ("internal/strconv.uint64pow10", laid_internal_strconv_uint64pow10), ("strconv.ErrRange", laid_strconv_ErrRange), ("strconv.ErrSyntax", laid_strconv_ErrSyntax)], narrowed := true }
def CoreEnoughUptoSaid : Prop := coreEnoughUptoRow.holds Tryz.pinned (OpenSpec.upto coreEnoughSpec)

/-- 'supercargolaw32.CoreWaives', WHERE WHAT IT READS IS OF BULK AT MOST 1048576: true; the input reads as it did. -/
def coreWaivesUptoRow : OpenClaim := { program := "ytdjmckjbibfecaagreatdoor", sum := "0905f5a5423a94b273f8031603f1d867c1aab93af679d2f615a9d4ebcee2b52a", func := "supercargo/supercargolaw32.CoreWaives", spec := "coreWaives", inPlace := ["internal/bytealg.IndexByteString", "internal/bytealg.IndexString"], unfollowed := true, recurses := true, named := ["internal/bytealg.MaxLen", "strconv.ErrSyntax", "strconv.ErrRange", "internal/strconv.uint64pow10", "math/bits.deBruijn32tab", "math/bits.deBruijn64tab", "supercargo/examine.alike"], loops := true, plainKeys := false, apart := false, laid := [("math/bits.deBruijn32tab", laid_math_bits_deBruijn32tab), ("math/bits.deBruijn64tab", laid_math_bits_deBruijn64tab), ("internal/strconv.uint64pow10", laid_internal_strconv_uint64pow10), ("strconv.ErrRange", laid_strconv_ErrRange), ("strconv.ErrSyntax", laid_strconv_ErrSyntax), ("supercargo/examine.alike", laid_supercargo_examine_alike)], narrowed := true }
def CoreWaivesUptoSaid : Prop := coreWaivesUptoRow.holds Tryz.pinned (OpenSpec.upto coreWaivesSpec)

/-- 'supercargolaw32.CoreFiner', WHERE WHAT IT READS IS OF BULK AT MOST 1048576: true; the input reads as it did. -/
def coreFinerUptoRow : OpenClaim := { program := "ytdjmckjbibfecaagreatdoor", sum := "0905f5a5423a94b273f8031603f1d867c1aab93af679d2f615a9d4ebcee2b52a", func := "supercargo/supercargolaw32.CoreFiner", spec := "coreFiner", inPlace := ["internal/bytealg.IndexByteString", "internal/bytealg.IndexString"], unfollowed := true, recurses := true, named := ["internal/bytealg.MaxLen", "strconv.ErrSyntax", "strconv.ErrRange", "internal/strconv.uint64pow10", "math/bits.deBruijn32tab", "math/bits.deBruijn64tab", "supercargo/examine.alike"], loops := true, plainKeys := false, apart := false, laid := [("math/bits.deBruijn32tab", laid_math_bits_deBruijn32tab), ("math/bits.deBruijn64tab", laid_math_bits_deBruijn64tab), ("internal/strconv.uint64pow10", laid_internal_strconv_uint64pow10), ("strconv.ErrRange", laid_strconv_ErrRange), ("strconv.ErrSyntax", laid_strconv_ErrSyntax), ("supercargo/examine.alike", laid_supercargo_examine_alike)], narrowed := true }
def CoreFinerUptoSaid : Prop := coreFinerUptoRow.holds Tryz.pinned (OpenSpec.upto coreFinerSpec)

/-- 'supercargolaw32.CoreMends', WHERE WHAT IT READS IS OF BULK AT MOST 1048576: true; the input reads as it did. -/
def coreMendsUptoRow : OpenClaim := { program := "ytdjmckjbibfecaagreatdoor", sum := "0905f5a5423a94b273f8031603f1d867c1aab93af679d2f615a9d4ebcee2b52a", func := "supercargo/supercargolaw32.CoreMends", spec := "coreMends", inPlace := ["internal/bytealg.IndexByteString", "internal/bytealg.IndexString"], unfollowed := true, recurses := true, named := ["internal/bytealg.MaxLen", "strconv.ErrSyntax", "strconv.ErrRange", "internal/strconv.uint64pow10", "math/bits.deBruijn32tab", "math/bits.deBruijn64tab", "supercargo/core.alike", "supercargo/examine.alike"], loops := true, plainKeys := false, apart := false, laid := [("math/bits.deBruijn32tab", laid_math_bits_deBruijn32tab), ("math/bits.deBruijn64tab", laid_math_bits_deBruijn64tab), ("internal/strconv.uint64pow10", laid_internal_strconv_uint64pow10), ("strconv.ErrRange", laid_strconv_ErrRange), ("strconv.ErrSyntax", laid_strconv_ErrSyntax), ("supercargo/examine.alike", laid_supercargo_examine_alike), ("supercargo/core.alike", laid_supercargo_core_alike)], narrowed := true }
def CoreMendsUptoSaid : Prop := coreMendsUptoRow.holds Tryz.pinned (OpenSpec.upto coreMendsSpec)

/-- 'supercargolaw32.CoreGone', WHERE WHAT IT READS IS OF BULK AT MOST 1048576: true; the input reads as it did. -/
def coreGoneUptoRow : OpenClaim := { program := "ytdjmckjbibfecaagreatdoor", sum := "0905f5a5423a94b273f8031603f1d867c1aab93af679d2f615a9d4ebcee2b52a", func := "supercargo/supercargolaw32.CoreGone", spec := "coreGone", inPlace := ["internal/bytealg.IndexByteString", "internal/bytealg.IndexString"], unfollowed := true, recurses := true, named := ["internal/bytealg.MaxLen", "strconv.ErrSyntax", "strconv.ErrRange", "internal/strconv.uint64pow10", "math/bits.deBruijn32tab", "math/bits.deBruijn64tab", "supercargo/examine.alike", "supercargo/core.alike"], loops := true, plainKeys := false, apart := false, laid := [("math/bits.deBruijn32tab", laid_math_bits_deBruijn32tab), ("math/bits.deBruijn64tab", laid_math_bits_deBruijn64tab), ("internal/strconv.uint64pow10", laid_internal_strconv_uint64pow10), ("strconv.ErrRange", laid_strconv_ErrRange), ("strconv.ErrSyntax", laid_strconv_ErrSyntax), ("supercargo/examine.alike", laid_supercargo_examine_alike), ("supercargo/core.alike", laid_supercargo_core_alike)], narrowed := true }
def CoreGoneUptoSaid : Prop := coreGoneUptoRow.holds Tryz.pinned (OpenSpec.upto coreGoneSpec)

/-- 'supercargolaw32.CoreWhys', WHERE WHAT IT READS IS OF BULK AT MOST 1048576: true; the input reads as it did. -/
def coreWhysUptoRow : OpenClaim := { program := "ytdjmckjbibfecaagreatdoor", sum := "0905f5a5423a94b273f8031603f1d867c1aab93af679d2f615a9d4ebcee2b52a", func := "supercargo/supercargolaw32.CoreWhys", spec := "coreWhys", inPlace := ["internal/bytealg.IndexByteString", "internal/bytealg.IndexString", "internal/abi.NoEscape", "internal/bytealg.MakeNoZero"], unfollowed := true, recurses := true, named := ["internal/bytealg.MaxLen", "strconv.ErrSyntax", "strconv.ErrRange", "internal/strconv.uint64pow10", "math/bits.deBruijn32tab", "math/bits.deBruijn64tab", "supercargo/examine.alike", "supercargo/examine.kinds", "supercargo/examine.whys", "supercargo/token.words", "supercargo/syntax.papers"], loops := true, plainKeys := false, apart := false, laid := [("math/bits.deBruijn32tab", laid_math_bits_deBruijn32tab), ("math/bits.deBruijn64tab", laid_math_bits_deBruijn64tab), ("internal/strconv.uint64pow10", laid_internal_strconv_uint64pow10), ("strconv.ErrRange", laid_strconv_ErrRange), ("strconv.ErrSyntax", laid_strconv_ErrSyntax), ("supercargo/examine.kinds", laid_supercargo_examine_kinds), ("supercargo/examine.whys", laid_supercargo_examine_whys), ("supercargo/examine.alike", laid_supercargo_examine_alike), ("supercargo/token.words", laid_supercargo_token_words), ("supercargo/syntax.papers", laid_supercargo_syntax_papers)], narrowed := true }
def CoreWhysUptoSaid : Prop := coreWhysUptoRow.holds Tryz.pinned (OpenSpec.upto coreWhysSpec)

/-- 'supercargolaw32.CoreFine', WHERE WHAT IT READS IS OF BULK AT MOST 1048576: true; the input reads as it did. -/
def coreFineUptoRow : OpenClaim := { program := "ytdjmckjbibfecaagreatdoor", sum := "0905f5a5423a94b273f8031603f1d867c1aab93af679d2f615a9d4ebcee2b52a", func := "supercargo/supercargolaw32.CoreFine", spec := "coreFine", inPlace := ["internal/bytealg.IndexByteString", "internal/bytealg.IndexString", "internal/abi.NoEscape", "internal/bytealg.MakeNoZero"], unfollowed := true, recurses := true, named := ["internal/bytealg.MaxLen", "strconv.ErrSyntax", "strconv.ErrRange", "internal/strconv.uint64pow10", "math/bits.deBruijn32tab", "math/bits.deBruijn64tab", "supercargo/examine.alike", "supercargo/core.alike", "supercargo/examine.kinds", "supercargo/examine.whys", "supercargo/token.words", "supercargo/syntax.papers"], loops := true, plainKeys := false, apart := false, laid := [("math/bits.deBruijn32tab", laid_math_bits_deBruijn32tab), ("math/bits.deBruijn64tab", laid_math_bits_deBruijn64tab), ("internal/strconv.uint64pow10", laid_internal_strconv_uint64pow10), ("strconv.ErrRange", laid_strconv_ErrRange), ("strconv.ErrSyntax", laid_strconv_ErrSyntax), ("supercargo/examine.kinds", laid_supercargo_examine_kinds), ("supercargo/examine.whys", laid_supercargo_examine_whys), ("supercargo/examine.alike", laid_supercargo_examine_alike), ("supercargo/token.words", laid_supercargo_token_words), ("supercargo/syntax.papers", laid_supercargo_syntax_papers), ("supercargo/core.alike", laid_supercargo_core_alike)], narrowed := true }
def CoreFineUptoSaid : Prop := coreFineUptoRow.holds Tryz.pinned (OpenSpec.upto coreFineSpec)

end Rows
end Go.Proofs.YtdjmckjbibfecaaGreatDoor
