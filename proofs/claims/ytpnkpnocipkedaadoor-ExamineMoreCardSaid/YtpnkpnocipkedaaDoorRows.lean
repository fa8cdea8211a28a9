/-
  NARROWER THAN 'FOR EVERY INPUT', by the rows' own cells (each row's printed sentence says how): ExamineStands: loops, laid · ExamineTexts: laid · ExamineTurns: loops, laid · ExamineMore: loops, laid · ExamineDay: loops, laid · ExamineOnce: loops, laid · ExamineSpoilt: laid · ExamineNeeds: loops, laid · ExamineJoins: laid.
  DERIVED. THE GIVEN ROWS OF THIS SEAT. 9 by the template 'for every input the law returns true; each argument reads behind the call as it read before'; 0 by the template 'total and deterministic' (their statements: YtpnkpnocipkedaaDoorTotals.lean).
  GIVEN WITH THE SEED: the statements are not yours to turn. If you find one false, say at which input.
  Laid BY PROGRAM, IN A SANDBOX (cutbox-rows.mjs): the forced cells as the released guide's own fill.sh prints them over the translation fee22895b3c7665e… (all of the seat's roots in one cut). By AI agents, Wed Nov 11 2026. No macro, syntax, notation, axiom, sorry.
-/
import Derived.Test.YtpnkpnocipkedaaDoorChecked
import GoSem.Claim
import GoSem.ClaimJoined
import GoSem.ClaimMapViews
import Derived.JoinedTies
import Derived.KernelRfl
namespace Go.Proofs.YtpnkpnocipkedaaDoor
/- THE CELL 'sum', in the pinned program and in every row, IS THE sha256 OF THE DUMP (.gsa) THAT YtpnkpnocipkedaaDoorProg.lean LOADS. Nothing in Lean hashes anything: it is a label: what it is worth is what the hold of that sum in a sandbox is worth. -/
noncomputable def Tryd.pinned : Pinned := { name := "ytpnkpnocipkedaadoor", sum := "fee22895b3c7665e01a66ae69f11fd9e8f3362c492775dd8a702a4cd613e19dd", checked := Tryd.checked }
namespace Rows
def none {H : Type} : Left H := { results := [], args := [] }

/- WHAT THE LISTED PACKAGE-LEVEL VARIABLES READ AS WHEN THE CALL BEGINS. Each datum BY PROGRAM (the guide's laid-datum.mjs) off the statement by which the dump's own 'gosem.cut.vars' lays the variable. In a bare row this is a premise. The card (YtpnkpnocipkedaaDoorCards.lean) ties it to the program's text. -/
def laid_math_bits_deBruijn32tab {H : Type} : DataW H := .agg [.lit (.int .u8 0), .lit (.int .u8 1), .lit (.int .u8 28), .lit (.int .u8 2), .lit (.int .u8 29), .lit (.int .u8 14), .lit (.int .u8 24), .lit (.int .u8 3), .lit (.int .u8 30), .lit (.int .u8 22), .lit (.int .u8 20), .lit (.int .u8 15), .lit (.int .u8 25), .lit (.int .u8 17), .lit (.int .u8 4), .lit (.int .u8 8), .lit (.int .u8 31), .lit (.int .u8 27), .lit (.int .u8 13), .lit (.int .u8 23), .lit (.int .u8 21), .lit (.int .u8 19), .lit (.int .u8 16), .lit (.int .u8 7), .lit (.int .u8 26), .lit (.int .u8 12), .lit (.int .u8 18), .lit (.int .u8 6), .lit (.int .u8 11), .lit (.int .u8 5), .lit (.int .u8 10), .lit (.int .u8 9)]
def laid_math_bits_deBruijn64tab {H : Type} : DataW H := .agg [.lit (.int .u8 0), .lit (.int .u8 1), .lit (.int .u8 56), .lit (.int .u8 2), .lit (.int .u8 57), .lit (.int .u8 49), .lit (.int .u8 28), .lit (.int .u8 3), .lit (.int .u8 61), .lit (.int .u8 58), .lit (.int .u8 42), .lit (.int .u8 50), .lit (.int .u8 38), .lit (.int .u8 29), .lit (.int .u8 17), .lit (.int .u8 4), .lit (.int .u8 62), .lit (.int .u8 47), .lit (.int .u8 59), .lit (.int .u8 36), .lit (.int .u8 45), .lit (.int .u8 43), .lit (.int .u8 51), .lit (.int .u8 22), .lit (.int .u8 53), .lit (.int .u8 39), .lit (.int .u8 33), .lit (.int .u8 30), .lit (.int .u8 24), .lit (.int .u8 18), .lit (.int .u8 12), .lit (.int .u8 5), .lit (.int .u8 63), .lit (.int .u8 55), .lit (.int .u8 48), .lit (.int .u8 27), .lit (.int .u8 60), .lit (.int .u8 41), .lit (.int .u8 37), .lit (.int .u8 16), .lit (.int .u8 46), .lit (.int .u8 35), .lit (.int .u8 44), .lit (.int .u8 21), .lit (.int .u8 52), .lit (.int .u8 32), .lit (.int .u8 23), .lit (.int .u8 11), .lit (.int .u8 54), .lit (.int .u8 26), .lit (.int .u8 40), .lit (.int .u8 15), .lit (.int .u8 34), .lit (.int .u8 20), .lit (.int .u8 31), .lit (.int .u8 10), .lit (.int .u8 25), .lit (.int .u8 14), .lit (.int .u8 19), .lit (.int .u8 9), .lit (.int .u8 13), .lit (.int .u8 8), .lit (.int .u8 7), .lit (.int .u8 6)]
def laid_internal_strconv_uint64pow10 {H : Type} : DataW H := .agg [.lit (.int .u64 1), .lit (.int .u64 10), .lit (.int .u64 100), .lit (.int .u64 1000), .lit (.int .u64 10000), .lit (.int .u64 100000), .lit (.int .u64 1000000), .lit (.int .u64 10000000), .lit (.int .u64 100000000), .lit (.int .u64 1000000000), .lit (.int .u64 10000000000), .lit (.int .u64 100000000000), .lit (.int .u64 1000000000000), .lit (.int .u64 10000000000000), .lit (.int .u64 100000000000000), .lit (.int .u64 1000000000000000), .lit (.int .u64 10000000000000000), .lit (.int .u64 100000000000000000), .lit (.int .u64 1000000000000000000), .lit (.int .u64 10000000000000000000)]
def laid_strconv_ErrRange {H : Type} : DataW H := .iface "*errors.errorString" (.ptr (.agg [.lit (.string [118, 97, 108, 117, 101, 32, 111, 117, 116, 32, 111, 102, 32, 114, 97, 110, 103, 101])]))
def laid_strconv_ErrSyntax {H : Type} : DataW H := .iface "*errors.errorString" (.ptr (.agg [.lit (.string [105, 110, 118, 97, 108, 105, 100, 32, 115, 121, 110, 116, 97, 120])]))
def laid_supercargo_examine_kinds {H : Type} : DataW H := .agg [.lit (.string [105, 110, 118, 111, 105, 99, 101]), .lit (.string [112, 97, 99, 107, 105, 110, 103]), .lit (.string [108, 97, 100, 105, 110, 103]), .lit (.string [105, 110, 115, 117, 114, 97, 110, 99, 101]), .lit (.string [111, 114, 105, 103, 105, 110]), .lit (.string [100, 114, 97, 102, 116])]
def laid_supercargo_examine_whys {H : Type} : DataW H := .agg [.lit (.string [102, 105, 110, 101]), .lit (.string [108, 97, 99, 107, 115]), .lit (.string [102, 97, 105, 108, 115]), .lit (.string [117, 110, 108, 105, 107, 101]), .lit (.string [108, 97, 116, 101]), .lit (.string [109, 117, 99, 104]), .lit (.string [102, 101, 119])]
def laid_supercargo_examine_alike {H : Type} : DataW H := .agg [.lit (.string [115, 101, 108, 108, 101, 114]), .lit (.string [102, 114, 111, 109]), .lit (.string [116, 111]), .lit (.string [99, 117, 114, 114, 101, 110, 99, 121]), .lit (.string [98, 111, 120, 101, 115]), .lit (.string [109, 97, 114, 107, 115])]

/-- 'supercargolaw31.ExamineStands': WHATEVER THE INPUT: true; the input reads as it did. -/
def examineStandsSpec : ChangeSpec := { name := "examineStands", fn := fun _ => fun
  | [d1, d2, d3, d4, d5] => { results := [.lit (.bool true)], args := [d1, d2, d3, d4, d5] }
  | _ => none }
def examineStandsRow : OpenClaim := { program := "ytpnkpnocipkedaadoor", sum := "fee22895b3c7665e01a66ae69f11fd9e8f3362c492775dd8a702a4cd613e19dd", func := "supercargo/supercargolaw31.ExamineStands", spec := "examineStands", inPlace := ["internal/bytealg.IndexByteString", "internal/bytealg.IndexString", "internal/abi.NoEscape", "internal/bytealg.MakeNoZero"], unfollowed := true, recurses := true, named := ["strconv.ErrSyntax", "strconv.ErrRange", "internal/strconv.uint64pow10", "math/bits.deBruijn32tab", "math/bits.deBruijn64tab", "internal/bytealg.MaxLen", "supercargo/examine.alike", "supercargo/examine.kinds", "supercargo/examine.whys"], loops := true, plainKeys := false, apart := false, laid := [("math/bits.deBruijn32tab", laid_math_bits_deBruijn32tab), ("math/bits.deBruijn64tab", laid_math_bits_deBruijn64tab), ("internal/strconv.uint64pow10", laid_internal_strconv_uint64pow10), ("strconv.ErrRange", laid_strconv_ErrRange), ("strconv.ErrSyntax", laid_strconv_ErrSyntax), ("supercargo/examine.kinds", laid_supercargo_examine_kinds), ("supercargo/examine.whys", laid_supercargo_examine_whys), ("supercargo/examine.alike", laid_supercargo_examine_alike)] }
def ExamineStandsSaid : Prop := examineStandsRow.holds Tryd.pinned (OpenSpec.ofChange examineStandsSpec)

/-- ITS FALSE NEIGHBOUR: 'it returns false'. Refute it at one input. -/
def examineStandsWrong : ChangeSpec := { name := "examineStands", fn := fun _ => fun
  | [d1, d2, d3, d4, d5] => { results := [.lit (.bool false)], args := [d1, d2, d3, d4, d5] }
  | _ => none }
def ExamineStandsWrongFalsely : Prop := examineStandsRow.holds Tryd.pinned (OpenSpec.ofChange examineStandsWrong)

/-- 'supercargolaw31.ExamineTexts': WHATEVER THE INPUT: true; the input reads as it did. -/
def examineTextsSpec : ChangeSpec := { name := "examineTexts", fn := fun _ => fun
  | [d] => { results := [.lit (.bool true)], args := [d] }
  | _ => none }
def examineTextsRow : OpenClaim := { program := "ytpnkpnocipkedaadoor", sum := "fee22895b3c7665e01a66ae69f11fd9e8f3362c492775dd8a702a4cd613e19dd", func := "supercargo/supercargolaw31.ExamineTexts", spec := "examineTexts", inPlace := ["internal/bytealg.IndexByteString", "internal/bytealg.IndexString", "internal/abi.NoEscape", "internal/bytealg.MakeNoZero"], unfollowed := true, recurses := true, named := ["strconv.ErrSyntax", "strconv.ErrRange", "internal/strconv.uint64pow10", "math/bits.deBruijn32tab", "math/bits.deBruijn64tab", "internal/bytealg.MaxLen", "supercargo/examine.alike", "supercargo/examine.kinds", "supercargo/examine.whys"], plainKeys := false, apart := false, laid := [("math/bits.deBruijn32tab", laid_math_bits_deBruijn32tab), ("math/bits.deBruijn64tab", laid_math_bits_deBruijn64tab), ("internal/strconv.uint64pow10", laid_internal_strconv_uint64pow10), ("strconv.ErrRange", laid_strconv_ErrRange), ("strconv.ErrSyntax", laid_strconv_ErrSyntax), ("supercargo/examine.kinds", laid_supercargo_examine_kinds), ("supercargo/examine.whys", laid_supercargo_examine_whys), ("supercargo/examine.alike", laid_supercargo_examine_alike)] }
def ExamineTextsSaid : Prop := examineTextsRow.holds Tryd.pinned (OpenSpec.ofChange examineTextsSpec)

/-- ITS FALSE NEIGHBOUR: 'it returns false'. Refute it at one input. -/
def examineTextsWrong : ChangeSpec := { name := "examineTexts", fn := fun _ => fun
  | [d] => { results := [.lit (.bool false)], args := [d] }
  | _ => none }
def ExamineTextsWrongFalsely : Prop := examineTextsRow.holds Tryd.pinned (OpenSpec.ofChange examineTextsWrong)

/-- 'supercargolaw31.ExamineTurns': WHATEVER THE INPUT: true; the input reads as it did. -/
def examineTurnsSpec : ChangeSpec := { name := "examineTurns", fn := fun _ => fun
  | [d1, d2, d3, d4] => { results := [.lit (.bool true)], args := [d1, d2, d3, d4] }
  | _ => none }
def examineTurnsRow : OpenClaim := { program := "ytpnkpnocipkedaadoor", sum := "fee22895b3c7665e01a66ae69f11fd9e8f3362c492775dd8a702a4cd613e19dd", func := "supercargo/supercargolaw31.ExamineTurns", spec := "examineTurns", inPlace := ["internal/bytealg.IndexByteString", "internal/bytealg.IndexString", "internal/abi.NoEscape", "internal/bytealg.MakeNoZero"], unfollowed := true, recurses := true, named := ["strconv.ErrSyntax", "strconv.ErrRange", "internal/strconv.uint64pow10", "math/bits.deBruijn32tab", "math/bits.deBruijn64tab", "internal/bytealg.MaxLen", "supercargo/examine.alike", "supercargo/examine.kinds", "supercargo/examine.whys"], loops := true, plainKeys := false, apart := false, laid := [("math/bits.deBruijn32tab", laid_math_bits_deBruijn32tab), ("math/bits.deBruijn64tab", laid_math_bits_deBruijn64tab), ("internal/strconv.uint64pow10", laid_internal_strconv_uint64pow10), ("strconv.ErrRange", laid_strconv_ErrRange), ("strconv.ErrSyntax", laid_strconv_ErrSyntax), ("supercargo/examine.kinds", laid_supercargo_examine_kinds), ("supercargo/examine.whys", laid_supercargo_examine_whys), ("supercargo/examine.alike", laid_supercargo_examine_alike)] }
def ExamineTurnsSaid : Prop := examineTurnsRow.holds Tryd.pinned (OpenSpec.ofChange examineTurnsSpec)

/-- ITS FALSE NEIGHBOUR: 'it returns false'. Refute it at one input. -/
def examineTurnsWrong : ChangeSpec := { name := "examineTurns", fn := fun _ => fun
  | [d1, d2, d3, d4] => { results := [.lit (.bool false)], args := [d1, d2, d3, d4] }
  | _ => none }
def ExamineTurnsWrongFalsely : Prop := examineTurnsRow.holds Tryd.pinned (OpenSpec.ofChange examineTurnsWrong)

/-- 'supercargolaw31.ExamineMore': WHATEVER THE INPUT: true; the input reads as it did. -/
def examineMoreSpec : ChangeSpec := { name := "examineMore", fn := fun _ => fun
  | [d1, d2, d3, d4] => { results := [.lit (.bool true)], args := [d1, d2, d3, d4] }
  | _ => none }
def examineMoreRow : OpenClaim := { program := "ytpnkpnocipkedaadoor", sum := "fee22895b3c7665e01a66ae69f11fd9e8f3362c492775dd8a702a4cd613e19dd", func := "supercargo/supercargolaw31.ExamineMore", spec := "examineMore", inPlace := ["internal/bytealg.IndexByteString", "internal/bytealg.IndexString", "internal/abi.NoEscape", "internal/bytealg.MakeNoZero"], unfollowed := true, recurses := true, named := ["strconv.ErrSyntax", "strconv.ErrRange", "internal/strconv.uint64pow10", "math/bits.deBruijn32tab", "math/bits.deBruijn64tab", "internal/bytealg.MaxLen", "supercargo/examine.alike", "supercargo/examine.kinds", "supercargo/examine.whys"], loops := true, plainKeys := false, apart := false, laid := [("math/bits.deBruijn32tab", laid_math_bits_deBruijn32tab), ("math/bits.deBruijn64tab", laid_math_bits_deBruijn64tab), ("internal/strconv.uint64pow10", laid_internal_strconv_uint64pow10), ("strconv.ErrRange", laid_strconv_ErrRange), ("strconv.ErrSyntax", laid_strconv_ErrSyntax), ("supercargo/examine.kinds", laid_supercargo_examine_kinds), ("supercargo/examine.whys", laid_supercargo_examine_whys), ("supercargo/examine.alike", laid_supercargo_examine_alike)] }
def ExamineMoreSaid : Prop := examineMoreRow.holds Tryd.pinned (OpenSpec.ofChange examineMoreSpec)

/-- ITS FALSE NEIGHBOUR: 'it returns false'. Refute it at one input. -/
def examineMoreWrong : ChangeSpec := { name := "examineMore", fn := fun _ => fun
  | [d1, d2, d3, d4] => { results := [.lit (.bool false)], args := [d1, d2, d3, d4] }
  | _ => none }
def ExamineMoreWrongFalsely : Prop := examineMoreRow.holds Tryd.pinned (OpenSpec.ofChange examineMoreWrong)

/-- 'supercargolaw31.ExamineDay': WHATEVER THE INPUT: true; the input reads as it did. -/
def examineDaySpec : ChangeSpec := { name := "examineDay", fn := fun _ => fun
  | [d1, d2, d3, d4] => { results := [.lit (.bool true)], args := [d1, d2, d3, d4] }
  | _ => none }
def examineDayRow : OpenClaim := { program := "ytpnkpnocipkedaadoor", sum := "fee22895b3c7665e01a66ae69f11fd9e8f3362c492775dd8a702a4cd613e19dd", func := "supercargo/supercargolaw31.ExamineDay", spec := "examineDay", inPlace := ["internal/bytealg.IndexByteString", "internal/bytealg.IndexString", "internal/abi.NoEscape", "internal/bytealg.MakeNoZero"], unfollowed := true, recurses := true, named := ["strconv.ErrSyntax", "strconv.ErrRange", "internal/strconv.uint64pow10", "math/bits.deBruijn32tab", "math/bits.deBruijn64tab", "internal/bytealg.MaxLen", "supercargo/examine.alike", "supercargo/examine.kinds", "supercargo/examine.whys"], loops := true, plainKeys := false, apart := false, laid := [("math/bits.deBruijn32tab", laid_math_bits_deBruijn32tab), ("math/bits.deBruijn64tab", laid_math_bits_deBruijn64tab), ("internal/strconv.uint64pow10", laid_internal_strconv_uint64pow10), ("strconv.ErrRange", laid_strconv_ErrRange), ("strconv.ErrSyntax", laid_strconv_ErrSyntax), ("supercargo/examine.kinds", laid_supercargo_examine_kinds), ("supercargo/examine.whys", laid_supercargo_examine_whys), ("supercargo/examine.alike", laid_supercargo_examine_alike)] }
def ExamineDaySaid : Prop := examineDayRow.holds Tryd.pinned (OpenSpec.ofChange examineDaySpec)

/-- ITS FALSE NEIGHBOUR: 'it returns false'. Refute it at one input. -/
def examineDayWrong : ChangeSpec := { name := "examineDay", fn := fun _ => fun
  | [d1, d2, d3, d4] => { results := [.lit (.bool false)], args := [d1, d2, d3, d4] }
  | _ => none }
def ExamineDayWrongFalsely : Prop := examineDayRow.holds Tryd.pinned (OpenSpec.ofChange examineDayWrong)

/-- 'supercargolaw31.ExamineOnce': WHATEVER THE INPUT: true; the input reads as it did. -/
def examineOnceSpec : ChangeSpec := { name := "examineOnce", fn := fun _ => fun
  | [d1, d2, d3] => { results := [.lit (.bool true)], args := [d1, d2, d3] }
  | _ => none }
def examineOnceRow : OpenClaim := { program := "ytpnkpnocipkedaadoor", sum := "fee22895b3c7665e01a66ae69f11fd9e8f3362c492775dd8a702a4cd613e19dd", func := "supercargo/supercargolaw31.ExamineOnce", spec := "examineOnce", inPlace := ["internal/bytealg.IndexByteString", "internal/bytealg.IndexString", "internal/abi.NoEscape", "internal/bytealg.MakeNoZero"], unfollowed := true, recurses := true, named := ["strconv.ErrSyntax", "strconv.ErrRange", "internal/strconv.uint64pow10", "math/bits.deBruijn32tab", "math/bits.deBruijn64tab", "internal/bytealg.MaxLen", "supercargo/examine.alike", "supercargo/examine.kinds", "supercargo/examine.whys"], loops := true, plainKeys := false, apart := false, laid := [("math/bits.deBruijn32tab", laid_math_bits_deBruijn32tab), ("math/bits.deBruijn64tab", laid_math_bits_deBruijn64tab), ("internal/strconv.uint64pow10", laid_internal_strconv_uint64pow10), ("strconv.ErrRange", laid_strconv_ErrRange), ("strconv.ErrSyntax", laid_strconv_ErrSyntax), ("supercargo/examine.kinds", laid_supercargo_examine_kinds), ("supercargo/examine.whys", laid_supercargo_examine_whys), ("supercargo/examine.alike", laid_supercargo_examine_alike)] }
def ExamineOnceSaid : Prop := examineOnceRow.holds Tryd.pinned (OpenSpec.ofChange examineOnceSpec)

/-- ITS FALSE NEIGHBOUR: 'it returns false'. Refute it at one input. -/
def examineOnceWrong : ChangeSpec := { name := "examineOnce", fn := fun _ => fun
  | [d1, d2, d3] => { results := [.lit (.bool false)], args := [d1, d2, d3] }
  | _ => none }
def ExamineOnceWrongFalsely : Prop := examineOnceRow.holds Tryd.pinned (OpenSpec.ofChange examineOnceWrong)

/-- 'supercargolaw31.ExamineSpoilt': WHATEVER THE INPUT: true; the input reads as it did. -/
def examineSpoiltSpec : ChangeSpec := { name := "examineSpoilt", fn := fun _ => fun
  | [d1, d2, d3, d4] => { results := [.lit (.bool true)], args := [d1, d2, d3, d4] }
  | _ => none }
def examineSpoiltRow : OpenClaim := { program := "ytpnkpnocipkedaadoor", sum := "fee22895b3c7665e01a66ae69f11fd9e8f3362c492775dd8a702a4cd613e19dd", func := "supercargo/supercargolaw31.ExamineSpoilt", spec := "examineSpoilt", inPlace := ["internal/bytealg.IndexByteString", "internal/bytealg.IndexString", "internal/abi.NoEscape", "internal/bytealg.MakeNoZero"], unfollowed := true, recurses := true, named := ["strconv.ErrSyntax", "strconv.ErrRange", "internal/strconv.uint64pow10", "math/bits.deBruijn32tab", "math/bits.deBruijn64tab", "internal/bytealg.MaxLen", "supercargo/examine.alike", "supercargo/examine.kinds", "supercargo/examine.whys"], plainKeys := false, apart := false, laid := [("math/bits.deBruijn32tab", laid_math_bits_deBruijn32tab), ("math/bits.deBruijn64tab", laid_math_bits_deBruijn64tab), ("internal/strconv.uint64pow10", laid_internal_strconv_uint64pow10), ("strconv.ErrRange", laid_strconv_ErrRange), ("strconv.ErrSyntax", laid_strconv_ErrSyntax), ("supercargo/examine.kinds", laid_supercargo_examine_kinds), ("supercargo/examine.whys", laid_supercargo_examine_whys), ("supercargo/examine.alike", laid_supercargo_examine_alike)] }
def ExamineSpoiltSaid : Prop := examineSpoiltRow.holds Tryd.pinned (OpenSpec.ofChange examineSpoiltSpec)

/-- ITS FALSE NEIGHBOUR: 'it returns false'. Refute it at one input. -/
def examineSpoiltWrong : ChangeSpec := { name := "examineSpoilt", fn := fun _ => fun
  | [d1, d2, d3, d4] => { results := [.lit (.bool false)], args := [d1, d2, d3, d4] }
  | _ => none }
def ExamineSpoiltWrongFalsely : Prop := examineSpoiltRow.holds Tryd.pinned (OpenSpec.ofChange examineSpoiltWrong)

/-- 'supercargolaw31.ExamineNeeds': WHATEVER THE INPUT: true; the input reads as it did. -/
def examineNeedsSpec : ChangeSpec := { name := "examineNeeds", fn := fun _ => fun
  | [d1, d2, d3, d4] => { results := [.lit (.bool true)], args := [d1, d2, d3, d4] }
  | _ => none }
def examineNeedsRow : OpenClaim := { program := "ytpnkpnocipkedaadoor", sum := "fee22895b3c7665e01a66ae69f11fd9e8f3362c492775dd8a702a4cd613e19dd", func := "supercargo/supercargolaw31.ExamineNeeds", spec := "examineNeeds", inPlace := ["internal/bytealg.IndexByteString", "internal/bytealg.IndexString", "internal/abi.NoEscape", "internal/bytealg.MakeNoZero"], unfollowed := true, recurses := true, named := ["strconv.ErrSyntax", "strconv.ErrRange", "internal/strconv.uint64pow10", "math/bits.deBruijn32tab", "math/bits.deBruijn64tab", "internal/bytealg.MaxLen", "supercargo/examine.alike", "supercargo/examine.kinds", "supercargo/examine.whys"], loops := true, plainKeys := false, apart := false, laid := [("math/bits.deBruijn32tab", laid_math_bits_deBruijn32tab), ("math/bits.deBruijn64tab", laid_math_bits_deBruijn64tab), ("internal/strconv.uint64pow10", laid_internal_strconv_uint64pow10), ("strconv.ErrRange", laid_strconv_ErrRange), ("strconv.ErrSyntax", laid_strconv_ErrSyntax), ("supercargo/examine.kinds", laid_supercargo_examine_kinds), ("supercargo/examine.whys", laid_supercargo_examine_whys), ("supercargo/examine.alike", laid_supercargo_examine_alike)] }
def ExamineNeedsSaid : Prop := examineNeedsRow.holds Tryd.pinned (OpenSpec.ofChange examineNeedsSpec)

/-- ITS FALSE NEIGHBOUR: 'it returns false'. Refute it at one input. -/
def examineNeedsWrong : ChangeSpec := { name := "examineNeeds", fn := fun _ => fun
  | [d1, d2, d3, d4] => { results := [.lit (.bool false)], args := [d1, d2, d3, d4] }
  | _ => none }
def ExamineNeedsWrongFalsely : Prop := examineNeedsRow.holds Tryd.pinned (OpenSpec.ofChange examineNeedsWrong)

/-- 'supercargolaw31.ExamineJoins': WHATEVER THE INPUT: true; the input reads as it did. -/
def examineJoinsSpec : ChangeSpec := { name := "examineJoins", fn := fun _ => fun
  | [d1, d2] => { results := [.lit (.bool true)], args := [d1, d2] }
  | _ => none }
def examineJoinsRow : OpenClaim := { program := "ytpnkpnocipkedaadoor", sum := "fee22895b3c7665e01a66ae69f11fd9e8f3362c492775dd8a702a4cd613e19dd", func := "supercargo/supercargolaw31.ExamineJoins", spec := "examineJoins", inPlace := ["internal/bytealg.IndexByteString", "internal/bytealg.IndexString", "internal/abi.NoEscape", "internal/bytealg.MakeNoZero"], unfollowed := true, recurses := true, named := ["strconv.ErrSyntax", "strconv.ErrRange", "internal/strconv.uint64pow10", "math/bits.deBruijn32tab", "math/bits.deBruijn64tab", "internal/bytealg.MaxLen", "supercargo/examine.alike", "supercargo/examine.kinds", "supercargo/examine.whys"], plainKeys := false, apart := false, laid := [("math/bits.deBruijn32tab", laid_math_bits_deBruijn32tab), ("math/bits.deBruijn64tab", laid_math_bits_deBruijn64tab), ("internal/strconv.uint64pow10", laid_internal_strconv_uint64pow10), ("strconv.ErrRange", laid_strconv_ErrRange), ("strconv.ErrSyntax", laid_strconv_ErrSyntax), ("supercargo/examine.kinds", laid_supercargo_examine_kinds), ("supercargo/examine.whys", laid_supercargo_examine_whys), ("supercargo/examine.alike", laid_supercargo_examine_alike)] }
def ExamineJoinsSaid : Prop := examineJoinsRow.holds Tryd.pinned (OpenSpec.ofChange examineJoinsSpec)

/-- ITS FALSE NEIGHBOUR: 'it returns false'. Refute it at one input. -/
def examineJoinsWrong : ChangeSpec := { name := "examineJoins", fn := fun _ => fun
  | [d1, d2] => { results := [.lit (.bool false)], args := [d1, d2] }
  | _ => none }
def ExamineJoinsWrongFalsely : Prop := examineJoinsRow.holds Tryd.pinned (OpenSpec.ofChange examineJoinsWrong)

/- THE SECOND FORM. 'bulk': how many values and letters a reading holds, each counted each time it is reached (what is shared counts as often as it is met; a slice's spare places count too). A statement '..UptoSaid' is the law's where the arguments, and the package variables that the reading takes, are together of bulk at most 1048576: NARROWER than '..Said'. Prove '..Said' where nothing that the law and all that it calls make is longer than what came in: it says more and counts as full. Else prove '..UptoSaid'. A law counts once. -/
mutual
def uptoBulk {H : Type} : DataW H → Nat
  | .lit (.string bytes) => bytes.length + 1
  | .lit _ => 1
  | .nil => 1
  | .ptr d => uptoBulk d + 1
  | .slice elems spare => uptoBulkAll elems + uptoBulkAll spare + 1
  | .agg parts => uptoBulkAll parts + 1
  | .iface _ d => uptoBulk d + 1
  | .map entries => uptoBulkEntries entries + 1
  | .held _ => 1
def uptoBulkAll {H : Type} : List (DataW H) → Nat
  | [] => 0
  | d :: r => uptoBulk d + uptoBulkAll r
def uptoBulkEntries {H : Type} : List (Lit × DataW H) → Nat
  | [] => 0
  | x :: r => uptoBulkEntry x + uptoBulkEntries r
def uptoBulkEntry {H : Type} : Lit × DataW H → Nat
  | (.string bytes, d) => bytes.length + uptoBulk d + 1
  | (_, d) => uptoBulk d + 1
 end
def uptoSmall : (H : Type) → List (DataW H) → Bool := fun _ ds => decide (uptoBulkAll ds ≤ 1048576)
def OpenSpec.upto (s : _root_.Go.ChangeSpec) : _root_.Go.OpenSpec := { _root_.Go.OpenSpec.ofChange s with cond := some uptoSmall }

/-- 'supercargolaw31.ExamineStands', WHERE WHAT IT READS IS OF BULK AT MOST 1048576: true; the input reads as it did. -/
def examineStandsUptoRow : OpenClaim := { program := "ytpnkpnocipkedaadoor", sum := "fee22895b3c7665e01a66ae69f11fd9e8f3362c492775dd8a702a4cd613e19dd", func := "supercargo/supercargolaw31.ExamineStands", spec := "examineStands", inPlace := ["internal/bytealg.IndexByteString", "internal/bytealg.IndexString", "internal/abi.NoEscape", "internal/bytealg.MakeNoZero"], unfollowed := true, recurses := true, named := ["strconv.ErrSyntax", "strconv.ErrRange", "internal/strconv.uint64pow10", "math/bits.deBruijn32tab", "math/bits.deBruijn64tab", "internal/bytealg.MaxLen", "supercargo/examine.alike", "supercargo/examine.kinds", "supercargo/examine.whys"], loops := true, plainKeys := false, apart := false, laid := [("math/bits.deBruijn32tab", laid_math_bits_deBruijn32tab), ("math/bits.deBruijn64tab", laid_math_bits_deBruijn64tab), ("internal/strconv.uint64pow10", laid_internal_strconv_uint64pow10), ("strconv.ErrRange", laid_strconv_ErrRange), ("strconv.ErrSyntax", laid_strconv_ErrSyntax), ("supercargo/examine.kinds", laid_supercargo_examine_kinds), ("supercargo/examine.whys", laid_supercargo_examine_whys), ("supercargo/examine.alike", laid_supercargo_examine_alike)], narrowed := true }
def ExamineStandsUptoSaid : Prop := examineStandsUptoRow.holds Tryd.pinned (OpenSpec.upto examineStandsSpec)

/-- 'supercargolaw31.ExamineTexts', WHERE WHAT IT READS IS OF BULK AT MOST 1048576: true; the input reads as it did. -/
def examineTextsUptoRow : OpenClaim := { program := "ytpnkpnocipkedaadoor", sum := "fee22895b3c7665e01a66ae69f11fd9e8f3362c492775dd8a702a4cd613e19dd", func := "supercargo/supercargolaw31.ExamineTexts", spec := "examineTexts", inPlace := ["internal/bytealg.IndexByteString", "internal/bytealg.IndexString", "internal/abi.NoEscape", "internal/bytealg.MakeNoZero"], unfollowed := true, recurses := true, named := ["strconv.ErrSyntax", "strconv.ErrRange", "internal/strconv.uint64pow10", "math/bits.deBruijn32tab", "math/bits.deBruijn64tab", "internal/bytealg.MaxLen", "supercargo/examine.alike", "supercargo/examine.kinds", "supercargo/examine.whys"], plainKeys := false, apart := false, laid := [("math/bits.deBruijn32tab", laid_math_bits_deBruijn32tab), ("math/bits.deBruijn64tab", laid_math_bits_deBruijn64tab), ("internal/strconv.uint64pow10", laid_internal_strconv_uint64pow10), ("strconv.ErrRange", laid_strconv_ErrRange), ("strconv.ErrSyntax", laid_strconv_ErrSyntax), ("supercargo/examine.kinds", laid_supercargo_examine_kinds), ("supercargo/examine.whys", laid_supercargo_examine_whys), ("supercargo/examine.alike", laid_supercargo_examine_alike)], narrowed := true }
def ExamineTextsUptoSaid : Prop := examineTextsUptoRow.holds Tryd.pinned (OpenSpec.upto examineTextsSpec)

/-- 'supercargolaw31.ExamineTurns', WHERE WHAT IT READS IS OF BULK AT MOST 1048576: true; the input reads as it did. -/
def examineTurnsUptoRow : OpenClaim := { program := "ytpnkpnocipkedaadoor", sum := "fee22895b3c7665e01a66ae69f11fd9e8f3362c492775dd8a702a4cd613e19dd", func := "supercargo/supercargolaw31.ExamineTurns", spec := "examineTurns", inPlace := ["internal/bytealg.IndexByteString", "internal/bytealg.IndexString", "internal/abi.NoEscape", "internal/bytealg.MakeNoZero"], unfollowed := true, recurses := true, named := ["strconv.ErrSyntax", "strconv.ErrRange", "internal/strconv.uint64pow10", "math/bits.deBruijn32tab", "math/bits.deBruijn64tab", "internal/bytealg.MaxLen", "supercargo/examine.alike", "supercargo/examine.kinds", "supercargo/examine.whys"], loops := true, plainKeys := false, apart := false, laid := [("math/bits.deBruijn32tab", laid_math_bits_deBruijn32tab), ("math/bits.deBruijn64tab", laid_math_bits_deBruijn64tab), ("internal/strconv.uint64pow10", laid_internal_strconv_uint64pow10), ("strconv.ErrRange", laid_strconv_ErrRange), ("strconv.ErrSyntax", laid_strconv_ErrSyntax), ("supercargo/examine.kinds", laid_supercargo_examine_kinds), ("supercargo/examine.whys", laid_supercargo_examine_whys), ("supercargo/examine.alike", laid_supercargo_examine_alike)], narrowed := true }
def ExamineTurnsUptoSaid : Prop := examineTurnsUptoRow.holds Tryd.pinned (OpenSpec.upto examineTurnsSpec)

/-- 'supercargolaw31.ExamineMore', WHERE WHAT IT READS IS OF BULK AT MOST 1048576: true; the input reads as it did. -/
def examineMoreUptoRow : OpenClaim := { program := "ytpnkpnocipkedaadoor", sum := "fee22895b3c7665e01a66ae69f11fd9e8f3362c492775dd8a702a4cd613e19dd", func := "supercargo/supercargolaw31.ExamineMore", spec := "examineMore", inPlace := ["internal/bytealg.IndexByteString", "internal/bytealg.IndexString", "internal/abi.NoEscape", "internal/bytealg.MakeNoZero"], unfollowed := true, recurses := true, named := ["strconv.ErrSyntax", "strconv.ErrRange", "internal/strconv.uint64pow10", "math/bits.deBruijn32tab", "math/bits.deBruijn64tab", "internal/bytealg.MaxLen", "supercargo/examine.alike", "supercargo/examine.kinds", "supercargo/examine.whys"], loops := true, plainKeys := false, apart := false, laid := [("math/bits.deBruijn32tab", laid_math_bits_deBruijn32tab), ("math/bits.deBruijn64tab", laid_math_bits_deBruijn64tab), ("internal/strconv.uint64pow10", laid_internal_strconv_uint64pow10), ("strconv.ErrRange", laid_strconv_ErrRange), ("strconv.ErrSyntax", laid_strconv_ErrSyntax), ("supercargo/examine.kinds", laid_supercargo_examine_kinds), ("supercargo/examine.whys", laid_supercargo_examine_whys), ("supercargo/examine.alike", laid_supercargo_examine_alike)], narrowed := true }
def ExamineMoreUptoSaid : Prop := examineMoreUptoRow.holds Tryd.pinned (OpenSpec.upto examineMoreSpec)

/-- 'supercargolaw31.ExamineDay', WHERE WHAT IT READS IS OF BULK AT MOST 1048576: true; the input reads as it did. -/
def examineDayUptoRow : OpenClaim := { program := "ytpnkpnocipkedaadoor", sum := "fee22895b3c7665e01a66ae69f11fd9e8f3362c492775dd8a702a4cd613e19dd", func := "supercargo/supercargolaw31.ExamineDay", spec := "examineDay", inPlace := ["internal/bytealg.IndexByteString", "internal/bytealg.IndexString", "internal/abi.NoEscape", "internal/bytealg.MakeNoZero"], unfollowed := true, recurses := true, named := ["strconv.ErrSyntax", "strconv.ErrRange", "internal/strconv.uint64pow10", "math/bits.deBruijn32tab", "math/bits.deBruijn64tab", "internal/bytealg.MaxLen", "supercargo/examine.alike", "supercargo/examine.kinds", "supercargo/examine.whys"], loops := true, plainKeys := false, apart := false, laid := [("math/bits.deBruijn32tab", laid_math_bits_deBruijn32tab), ("math/bits.deBruijn64tab", laid_math_bits_deBruijn64tab), ("internal/strconv.uint64pow10", laid_internal_strconv_uint64pow10), ("strconv.ErrRange", laid_strconv_ErrRange), ("strconv.ErrSyntax", laid_strconv_ErrSyntax), ("supercargo/examine.kinds", laid_supercargo_examine_kinds), ("supercargo/examine.whys", laid_supercargo_examine_whys), ("supercargo/examine.alike", laid_supercargo_examine_alike)], narrowed := true }
def ExamineDayUptoSaid : Prop := examineDayUptoRow.holds Tryd.pinned (OpenSpec.upto examineDaySpec)

/-- 'supercargolaw31.ExamineOnce', WHERE WHAT IT READS IS OF BULK AT MOST 1048576: true; the input reads as it did. -/
def examineOnceUptoRow : OpenClaim := { program := "ytpnkpnocipkedaadoor", sum := "fee22895b3c7665e01a66ae69f11fd9e8f3362c492775dd8a702a4cd613e19dd", func := "supercargo/supercargolaw31.ExamineOnce", spec := "examineOnce", inPlace := ["internal/bytealg.IndexByteString", "internal/bytealg.IndexString", "internal/abi.NoEscape", "internal/bytealg.MakeNoZero"], unfollowed := true, recurses := true, named := ["strconv.ErrSyntax", "strconv.ErrRange", "internal/strconv.uint64pow10", "math/bits.deBruijn32tab", "math/bits.deBruijn64tab", "internal/bytealg.MaxLen", "supercargo/examine.alike", "supercargo/examine.kinds", "supercargo/examine.whys"], loops := true, plainKeys := false, apart := false, laid := [("math/bits.deBruijn32tab", laid_math_bits_deBruijn32tab), ("math/bits.deBruijn64tab", laid_math_bits_deBruijn64tab), ("internal/strconv.uint64pow10", laid_internal_strconv_uint64pow10), ("strconv.ErrRange", laid_strconv_ErrRange), ("strconv.ErrSyntax", laid_strconv_ErrSyntax), ("supercargo/examine.kinds", laid_supercargo_examine_kinds), ("supercargo/examine.whys", laid_supercargo_examine_whys), ("supercargo/examine.alike", laid_supercargo_examine_alike)], narrowed := true }
def ExamineOnceUptoSaid : Prop := examineOnceUptoRow.holds Tryd.pinned (OpenSpec.upto examineOnceSpec)

/-- 'supercargolaw31.ExamineSpoilt', WHERE WHAT IT READS IS OF BULK AT MOST 1048576: true; the input reads as it did. -/
def examineSpoiltUptoRow : OpenClaim := { program := "ytpnkpnocipkedaadoor", sum := "fee22895b3c7665e01a66ae69f11fd9e8f3362c492775dd8a702a4cd613e19dd", func := "supercargo/supercargolaw31.ExamineSpoilt", spec := "examineSpoilt", inPlace := ["internal/bytealg.IndexByteString", "internal/bytealg.IndexString", "internal/abi.NoEscape", "internal/bytealg.MakeNoZero"], unfollowed := true, recurses := true, named := ["strconv.ErrSyntax", "strconv.ErrRange", "internal/strconv.uint64pow10", "math/bits.deBruijn32tab", "math/bits.deBruijn64tab", "internal/bytealg.MaxLen", "supercargo/examine.alike", "supercargo/examine.kinds", "supercargo/examine.whys"], plainKeys := false, apart := false, laid := [("math/bits.deBruijn32tab", laid_math_bits_deBruijn32tab), ("math/bits.deBruijn64tab", laid_math_bits_deBruijn64tab), ("internal/strconv.uint64pow10", laid_internal_strconv_uint64pow10), ("strconv.ErrRange", laid_strconv_ErrRange), ("strconv.ErrSyntax", laid_strconv_ErrSyntax), ("supercargo/examine.kinds", laid_supercargo_examine_kinds), ("supercargo/examine.whys", laid_supercargo_examine_whys), ("supercargo/examine.alike", laid_supercargo_examine_alike)], narrowed := true }
def ExamineSpoiltUptoSaid : Prop := examineSpoiltUptoRow.holds Tryd.pinned (OpenSpec.upto examineSpoiltSpec)

/-- 'supercargolaw31.ExamineNeeds', WHERE WHAT IT READS IS OF BULK AT MOST 1048576: true; the input reads as it did. -/
def examineNeedsUptoRow : OpenClaim := { program := "ytpnkpnocipkedaadoor", sum := "fee22895b3c7665e01a66ae69f11fd9e8f3362c492775dd8a702a4cd613e19dd", func := "supercargo/supercargolaw31.ExamineNeeds", spec := "examineNeeds", inPlace := ["internal/bytealg.IndexByteString", "internal/bytealg.IndexString", "internal/abi.NoEscape", "internal/bytealg.MakeNoZero"], unfollowed := true, recurses := true, named := ["strconv.ErrSyntax", "strconv.ErrRange", "internal/strconv.uint64pow10", "math/bits.deBruijn32tab", "math/bits.deBruijn64tab", "internal/bytealg.MaxLen", "supercargo/examine.alike", "supercargo/examine.kinds", "supercargo/examine.whys"], loops := true, plainKeys := false, apart := false, laid := [("math/bits.deBruijn32tab", laid_math_bits_deBruijn32tab), ("math/bits.deBruijn64tab", laid_math_bits_deBruijn64tab), ("internal/strconv.uint64pow10", laid_internal_strconv_uint64pow10), ("strconv.ErrRange", laid_strconv_ErrRange), ("strconv.ErrSyntax", laid_strconv_ErrSyntax), ("supercargo/examine.kinds", laid_supercargo_examine_kinds), ("supercargo/examine.whys", laid_supercargo_examine_whys), ("supercargo/examine.alike", laid_supercargo_examine_alike)], narrowed := true }
def ExamineNeedsUptoSaid : Prop := examineNeedsUptoRow.holds Tryd.pinned (OpenSpec.upto examineNeedsSpec)

/-- 'supercargolaw31.ExamineJoins', WHERE WHAT IT READS IS OF BULK AT MOST 1048576: true; the input reads as it did. -/
def examineJoinsUptoRow : OpenClaim := { program := "ytpnkpnocipkedaadoor", sum := "fee22895b3c7665e01a66ae69f11fd9e8f3362c492775dd8a702a4cd613e19dd", func := "supercargo/supercargolaw31.ExamineJoins", spec := "examineJoins", inPlace := ["internal/bytealg.IndexByteString", "internal/bytealg.IndexString", "internal/abi.NoEscape", "internal/bytealg.MakeNoZero"], unfollowed := true, recurses := true, named := ["strconv.ErrSyntax", "strconv.ErrRange", "internal/strconv.uint64pow10", "math/bits.deBruijn32tab", "math/bits.deBruijn64tab", "internal/bytealg.MaxLen", "supercargo/examine.alike", "supercargo/examine.kinds", "supercargo/examine.whys"], plainKeys := false, apart := false, laid := [("math/bits.deBruijn32tab", laid_math_bits_deBruijn32tab), ("math/bits.deBruijn64tab", laid_math_bits_deBruijn64tab), ("internal/strconv.uint64pow10", laid_internal_strconv_uint64pow10), ("strconv.ErrRange", laid_strconv_ErrRange), ("strconv.ErrSyntax", laid_strconv_ErrSyntax), ("supercargo/examine.kinds", laid_supercargo_examine_kinds), ("supercargo/examine.whys", laid_supercargo_examine_whys), ("supercargo/examine.alike", laid_supercargo_examine_alike)], narrowed := true }
def ExamineJoinsUptoSaid : Prop := examineJoinsUptoRow.holds Tryd.pinned (OpenSpec.upto examineJoinsSpec)

end Rows
end Go.Proofs.YtpnkpnocipkedaaDoor
