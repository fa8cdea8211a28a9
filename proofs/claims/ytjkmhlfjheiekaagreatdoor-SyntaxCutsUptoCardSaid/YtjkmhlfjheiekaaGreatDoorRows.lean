/-
  NARROWER THAN 'FOR EVERY INPUT', by the rows' own cells (each row's printed sentence says how): SyntaxRules: laid · SyntaxShows: loops, laid · SyntaxSame: loops, laid · SyntaxParses: laid · SyntaxPrints: loops, laid · SyntaxBack: loops, laid · SyntaxCuts: loops, laid · SyntaxStands: laid · SyntaxTokens: loops, laid.
  DERIVED. THE GIVEN ROWS OF THIS SEAT. 9 by the template 'for every input the law returns true; each argument reads behind the call as it read before'; 0 by the template 'total and deterministic' (their statements: YtjkmhlfjheiekaaGreatDoorTotals.lean).
  GIVEN WITH THE SEED: the statements are not yours to turn. If you find one false, say at which input.
  Laid BY PROGRAM, IN A SANDBOX (cutbox-rows.mjs): the forced cells as the released guide's own fill.sh prints them over the translation b862110fa9391fcf… (all of the seat's roots in one cut). By AI agents, Wed Nov 11 2026. No macro, syntax, notation, axiom, sorry.
-/
import Derived.Test.YtjkmhlfjheiekaaGreatDoorChecked
import GoSem.Claim
import GoSem.ClaimJoined
import GoSem.ClaimMapViews
import Derived.JoinedTies
import Derived.KernelRfl
namespace Go.Proofs.YtjkmhlfjheiekaaGreatDoor
/- THE CELL 'sum', in the pinned program and in every row, IS THE sha256 OF THE DUMP (.gsa) THAT YtjkmhlfjheiekaaGreatDoorProg.lean LOADS. Nothing in Lean hashes anything: it is a label: what it is worth is what the hold of that sum in a sandbox is worth. -/
noncomputable def Tryz.pinned : Pinned := { name := "ytjkmhlfjheiekaagreatdoor", sum := "b862110fa9391fcfdd3fdeb2bb697106d0ac16b0cc212c04da25ddc929ec7eed", checked := Tryz.checked }
namespace Rows
def none {H : Type} : Left H := { results := [], args := [] }

/- WHAT THE LISTED PACKAGE-LEVEL VARIABLES READ AS WHEN THE CALL BEGINS. Each datum BY PROGRAM (the guide's laid-datum.mjs) off the statement by which the dump's own 'gosem.cut.vars' lays the variable. In a bare row this is a premise. The card (YtjkmhlfjheiekaaGreatDoorCards.lean) ties it to the program's text. -/
def laid_math_bits_deBruijn32tab {H : Type} : DataW H := .agg [.lit (.int .u8 0), .lit (.int .u8 1), .lit (.int .u8 28), .lit (.int .u8 2), .lit (.int .u8 29), .lit (.int .u8 14), .lit (.int .u8 24), .lit (.int .u8 3), .lit (.int .u8 30), .lit (.int .u8 22), .lit (.int .u8 20), .lit (.int .u8 15), .lit (.int .u8 25), .lit (.int .u8 17), .lit (.int .u8 4), .lit (.int .u8 8), .lit (.int .u8 31), .lit (.int .u8 27), .lit (.int .u8 13), .lit (.int .u8 23), .lit (.int .u8 21), .lit (.int .u8 19), .lit (.int .u8 16), .lit (.int .u8 7), .lit (.int .u8 26), .lit (.int .u8 12), .lit (.int .u8 18), .lit (.int .u8 6), .lit (.int .u8 11), .lit (.int .u8 5), .lit (.int .u8 10), .lit (.int .u8 9)]
def laid_math_bits_deBruijn64tab {H : Type} : DataW H := .agg [.lit (.int .u8 0), .lit (.int .u8 1), .lit (.int .u8 56), .lit (.int .u8 2), .lit (.int .u8 57), .lit (.int .u8 49), .lit (.int .u8 28), .lit (.int .u8 3), .lit (.int .u8 61), .lit (.int .u8 58), .lit (.int .u8 42), .lit (.int .u8 50), .lit (.int .u8 38), .lit (.int .u8 29), .lit (.int .u8 17), .lit (.int .u8 4), .lit (.int .u8 62), .lit (.int .u8 47), .lit (.int .u8 59), .lit (.int .u8 36), .lit (.int .u8 45), .lit (.int .u8 43), .lit (.int .u8 51), .lit (.int .u8 22), .lit (.int .u8 53), .lit (.int .u8 39), .lit (.int .u8 33), .lit (.int .u8 30), .lit (.int .u8 24), .lit (.int .u8 18), .lit (.int .u8 12), .lit (.int .u8 5), .lit (.int .u8 63), .lit (.int .u8 55), .lit (.int .u8 48), .lit (.int .u8 27), .lit (.int .u8 60), .lit (.int .u8 41), .lit (.int .u8 37), .lit (.int .u8 16), .lit (.int .u8 46), .lit (.int .u8 35), .lit (.int .u8 44), .lit (.int .u8 21), .lit (.int .u8 52), .lit (.int .u8 32), .lit (.int .u8 23), .lit (.int .u8 11), .lit (.int .u8 54), .lit (.int .u8 26), .lit (.int .u8 40), .lit (.int .u8 15), .lit (.int .u8 34), .lit (.int .u8 20), .lit (.int .u8 31), .lit (.int .u8 10), .lit (.int .u8 25), .lit (.int .u8 14), .lit (.int .u8 19), .lit (.int .u8 9), .lit (.int .u8 13), .lit (.int .u8 8), .lit (.int .u8 7), .lit (.int .u8 6)]
def laid_internal_strconv_uint64pow10 {H : Type} : DataW H := .agg [.lit (.int .u64 1), .lit (.int .u64 10), .lit (.int .u64 100), .lit (.int .u64 1000), .lit (.int .u64 10000), .lit (.int .u64 100000), .lit (.int .u64 1000000), .lit (.int .u64 10000000), .lit (.int .u64 100000000), .lit (.int .u64 1000000000), .lit (.int .u64 10000000000), .lit (.int .u64 100000000000), .lit (.int .u64 1000000000000), .lit (.int .u64 10000000000000), .lit (.int .u64 100000000000000), .lit (.int .u64 1000000000000000), .lit (.int .u64 10000000000000000), .lit (.int .u64 100000000000000000), .lit (.int .u64 1000000000000000000), .lit (.int .u64 10000000000000000000)]
def laid_strconv_ErrRange {H : Type} : DataW H := .iface "*errors.errorString" (.ptr (.agg [.lit (.string [118, 97, 108, 117, 101, 32, 111, 117, 116, 32, 111, 102, 32, 114, 97, 110, 103, 101])]))
def laid_strconv_ErrSyntax {H : Type} : DataW H := .iface "*errors.errorString" (.ptr (.agg [.lit (.string [105, 110, 118, 97, 108, 105, 100, 32, 115, 121, 110, 116, 97, 120])]))
def laid_supercargo_token_words {H : Type} : DataW H := .agg [.lit (.string [97, 98, 111, 118, 101]), .lit (.string [97, 108, 108]), .lit (.string [97, 110, 100]), .lit (.string [97, 110, 121]), .lit (.string [97, 112, 112, 108, 105, 99, 97, 110, 116]), .lit (.string [98, 101, 108, 111, 119]), .lit (.string [98, 101, 110, 101, 102, 105, 99, 105, 97, 114, 121]), .lit (.string [99, 104, 97, 110, 103, 101]), .lit (.string [99, 111, 110, 102, 105, 114, 109, 101, 114]), .lit (.string [99, 111, 112, 105, 101, 115]), .lit (.string [99, 114, 101, 100, 105, 116]), .lit (.string [100, 97, 121, 115]), .lit (.string [100, 114, 97, 102, 116]), .lit (.string [101, 120, 112, 105, 114, 121]), .lit (.string [102, 114, 111, 109]), .lit (.string [105, 110, 115, 117, 114, 97, 110, 99, 101]), .lit (.string [105, 110, 118, 111, 105, 99, 101]), .lit (.string [105, 115, 115, 117, 101, 114]), .lit (.string [108, 97, 100, 105, 110, 103]), .lit (.string [108, 97, 116, 101, 115, 116]), .lit (.string [110, 111]), .lit (.string [110, 111, 116]), .lit (.string [111, 102]), .lit (.string [111, 114]), .lit (.string [111, 114, 105, 103, 105, 110]), .lit (.string [112, 97, 99, 107, 105, 110, 103]), .lit (.string [112, 97, 114, 116, 105, 97, 108]), .lit (.string [115, 105, 103, 104, 116]), .lit (.string [115, 117, 109]), .lit (.string [116, 101, 110, 111, 114]), .lit (.string [116, 111]), .lit (.string [119, 97, 110, 116, 115]), .lit (.string [119, 105, 116, 104]), .lit (.string [119, 105, 116, 104, 105, 110]), .lit (.string [121, 101, 115])]
def laid_supercargo_syntax_papers {H : Type} : DataW H := .agg [.lit (.string [105, 110, 118, 111, 105, 99, 101]), .lit (.string [112, 97, 99, 107, 105, 110, 103]), .lit (.string [108, 97, 100, 105, 110, 103]), .lit (.string [105, 110, 115, 117, 114, 97, 110, 99, 101]), .lit (.string [111, 114, 105, 103, 105, 110]), .lit (.string [100, 114, 97, 102, 116])]

/-- 'supercargolaw28.SyntaxRules': WHATEVER THE INPUT: true; the input reads as it did. -/
def syntaxRulesSpec : ChangeSpec := { name := "syntaxRules", fn := fun _ => fun
  | [d] => { results := [.lit (.bool true)], args := [d] }
  | _ => none }
def syntaxRulesRow : OpenClaim := { program := "ytjkmhlfjheiekaagreatdoor", sum := "b862110fa9391fcfdd3fdeb2bb697106d0ac16b0cc212c04da25ddc929ec7eed", func := "supercargo/supercargolaw28.SyntaxRules", spec := "syntaxRules", inPlace := ["internal/abi.NoEscape"], unfollowed := true, recurses := true, named := ["supercargo/token.words", "supercargo/syntax.papers", "strconv.ErrSyntax", "strconv.ErrRange", "internal/strconv.uint64pow10", "math/bits.deBruijn32tab", "math/bits.deBruijn64tab"], apart := false, laid := [("math/bits.deBruijn32tab", laid_math_bits_deBruijn32tab), ("math/bits.deBruijn64tab", laid_math_bits_deBruijn64tab), ("internal/strconv.uint64pow10", laid_internal_strconv_uint64pow10), ("strconv.ErrRange", laid_strconv_ErrRange), ("strconv.ErrSyntax", laid_strconv_ErrSyntax), ("supercargo/token.words", laid_supercargo_token_words), ("supercargo/syntax.papers", laid_supercargo_syntax_papers)] }
def SyntaxRulesSaid : Prop := syntaxRulesRow.holds Tryz.pinned (OpenSpec.ofChange syntaxRulesSpec)

/-- ITS FALSE NEIGHBOUR: 'it returns false'. Refute it at one input. -/
def syntaxRulesWrong : ChangeSpec := { name := "syntaxRules", fn := fun _ => fun
  | [d] => { results := [.lit (.bool false)], args := [d] }
  | _ => none }
def SyntaxRulesWrongFalsely : Prop := syntaxRulesRow.holds Tryz.pinned (OpenSpec.ofChange syntaxRulesWrong)

/-- 'supercargolaw28.SyntaxShows': WHATEVER THE INPUT: true; the input reads as it did. -/
def syntaxShowsSpec : ChangeSpec := { name := "syntaxShows", fn := fun _ => fun
  | [d] => { results := [.lit (.bool true)], args := [d] }
  | _ => none }
def syntaxShowsRow : OpenClaim := { program := "ytjkmhlfjheiekaagreatdoor", sum := "b862110fa9391fcfdd3fdeb2bb697106d0ac16b0cc212c04da25ddc929ec7eed", func := "supercargo/supercargolaw28.SyntaxShows", spec := "syntaxShows", inPlace := ["internal/abi.NoEscape"], unfollowed := true, recurses := true, named := ["supercargo/token.words", "supercargo/syntax.papers", "strconv.ErrSyntax", "strconv.ErrRange", "internal/strconv.uint64pow10", "math/bits.deBruijn32tab", "math/bits.deBruijn64tab"], loops := true, apart := false, laid := [("math/bits.deBruijn32tab", laid_math_bits_deBruijn32tab), ("math/bits.deBruijn64tab", laid_math_bits_deBruijn64tab), ("internal/strconv.uint64pow10", laid_internal_strconv_uint64pow10), ("strconv.ErrRange", laid_strconv_ErrRange), ("strconv.ErrSyntax", laid_strconv_ErrSyntax), ("supercargo/token.words", laid_supercargo_token_words), ("supercargo/syntax.papers", laid_supercargo_syntax_papers)] }
def SyntaxShowsSaid : Prop := syntaxShowsRow.holds Tryz.pinned (OpenSpec.ofChange syntaxShowsSpec)

/-- ITS FALSE NEIGHBOUR: 'it returns false'. Refute it at one input. -/
def syntaxShowsWrong : ChangeSpec := { name := "syntaxShows", fn := fun _ => fun
  | [d] => { results := [.lit (.bool false)], args := [d] }
  | _ => none }
def SyntaxShowsWrongFalsely : Prop := syntaxShowsRow.holds Tryz.pinned (OpenSpec.ofChange syntaxShowsWrong)

/-- 'supercargolaw28.SyntaxSame': WHATEVER THE INPUT: true; the input reads as it did. -/
def syntaxSameSpec : ChangeSpec := { name := "syntaxSame", fn := fun _ => fun
  | [d1, d2] => { results := [.lit (.bool true)], args := [d1, d2] }
  | _ => none }
def syntaxSameRow : OpenClaim := { program := "ytjkmhlfjheiekaagreatdoor", sum := "b862110fa9391fcfdd3fdeb2bb697106d0ac16b0cc212c04da25ddc929ec7eed", func := "supercargo/supercargolaw28.SyntaxSame", spec := "syntaxSame", inPlace := ["internal/abi.NoEscape"], unfollowed := true, recurses := true, named := ["supercargo/token.words", "supercargo/syntax.papers", "strconv.ErrSyntax", "strconv.ErrRange", "internal/strconv.uint64pow10", "math/bits.deBruijn32tab", "math/bits.deBruijn64tab"], loops := true, apart := false, laid := [("math/bits.deBruijn32tab", laid_math_bits_deBruijn32tab), ("math/bits.deBruijn64tab", laid_math_bits_deBruijn64tab), ("internal/strconv.uint64pow10", laid_internal_strconv_uint64pow10), ("strconv.ErrRange", laid_strconv_ErrRange), ("strconv.ErrSyntax", laid_strconv_ErrSyntax), ("supercargo/token.words", laid_supercargo_token_words), ("supercargo/syntax.papers", laid_supercargo_syntax_papers)] }
def SyntaxSameSaid : Prop := syntaxSameRow.holds Tryz.pinned (OpenSpec.ofChange syntaxSameSpec)

/-- ITS FALSE NEIGHBOUR: 'it returns false'. Refute it at one input. -/
def syntaxSameWrong : ChangeSpec := { name := "syntaxSame", fn := fun _ => fun
  | [d1, d2] => { results := [.lit (.bool false)], args := [d1, d2] }
  | _ => none }
def SyntaxSameWrongFalsely : Prop := syntaxSameRow.holds Tryz.pinned (OpenSpec.ofChange syntaxSameWrong)

/-- 'supercargolaw28.SyntaxParses': WHATEVER THE INPUT: true; the input reads as it did. -/
def syntaxParsesSpec : ChangeSpec := { name := "syntaxParses", fn := fun _ => fun
  | [d] => { results := [.lit (.bool true)], args := [d] }
  | _ => none }
def syntaxParsesRow : OpenClaim := { program := "ytjkmhlfjheiekaagreatdoor", sum := "b862110fa9391fcfdd3fdeb2bb697106d0ac16b0cc212c04da25ddc929ec7eed", func := "supercargo/supercargolaw28.SyntaxParses", spec := "syntaxParses", inPlace := ["internal/abi.NoEscape"], unfollowed := true, recurses := true, named := ["supercargo/token.words", "supercargo/syntax.papers", "strconv.ErrSyntax", "strconv.ErrRange", "internal/strconv.uint64pow10", "math/bits.deBruijn32tab", "math/bits.deBruijn64tab"], apart := false, laid := [("math/bits.deBruijn32tab", laid_math_bits_deBruijn32tab), ("math/bits.deBruijn64tab", laid_math_bits_deBruijn64tab), ("internal/strconv.uint64pow10", laid_internal_strconv_uint64pow10), ("strconv.ErrRange", laid_strconv_ErrRange), ("strconv.ErrSyntax", laid_strconv_ErrSyntax), ("supercargo/token.words", laid_supercargo_token_words), ("supercargo/syntax.papers", laid_supercargo_syntax_papers)] }
def SyntaxParsesSaid : Prop := syntaxParsesRow.holds Tryz.pinned (OpenSpec.ofChange syntaxParsesSpec)

/-- ITS FALSE NEIGHBOUR: 'it returns false'. Refute it at one input. -/
def syntaxParsesWrong : ChangeSpec := { name := "syntaxParses", fn := fun _ => fun
  | [d] => { results := [.lit (.bool false)], args := [d] }
  | _ => none }
def SyntaxParsesWrongFalsely : Prop := syntaxParsesRow.holds Tryz.pinned (OpenSpec.ofChange syntaxParsesWrong)

/-- 'supercargolaw28.SyntaxPrints': WHATEVER THE INPUT: true; the input reads as it did. -/
def syntaxPrintsSpec : ChangeSpec := { name := "syntaxPrints", fn := fun _ => fun
  | [d] => { results := [.lit (.bool true)], args := [d] }
  | _ => none }
def syntaxPrintsRow : OpenClaim := { program := "ytjkmhlfjheiekaagreatdoor", sum := "b862110fa9391fcfdd3fdeb2bb697106d0ac16b0cc212c04da25ddc929ec7eed", func := "supercargo/supercargolaw28.SyntaxPrints", spec := "syntaxPrints", inPlace := ["internal/abi.NoEscape", "internal/bytealg.MakeNoZero"], unfollowed := true, recurses := true, named := ["supercargo/token.words", "supercargo/syntax.papers", "strconv.ErrSyntax", "strconv.ErrRange", "internal/strconv.uint64pow10", "math/bits.deBruijn32tab", "math/bits.deBruijn64tab"], loops := true, apart := false, laid := [("math/bits.deBruijn32tab", laid_math_bits_deBruijn32tab), ("math/bits.deBruijn64tab", laid_math_bits_deBruijn64tab), ("internal/strconv.uint64pow10", laid_internal_strconv_uint64pow10), ("strconv.ErrRange", laid_strconv_ErrRange), ("strconv.ErrSyntax", laid_strconv_ErrSyntax), ("supercargo/token.words", laid_supercargo_token_words), ("supercargo/syntax.papers", laid_supercargo_syntax_papers)] }
def SyntaxPrintsSaid : Prop := syntaxPrintsRow.holds Tryz.pinned (OpenSpec.ofChange syntaxPrintsSpec)

/-- ITS FALSE NEIGHBOUR: 'it returns false'. Refute it at one input. -/
def syntaxPrintsWrong : ChangeSpec := { name := "syntaxPrints", fn := fun _ => fun
  | [d] => { results := [.lit (.bool false)], args := [d] }
  | _ => none }
def SyntaxPrintsWrongFalsely : Prop := syntaxPrintsRow.holds Tryz.pinned (OpenSpec.ofChange syntaxPrintsWrong)

/-- 'supercargolaw28.SyntaxBack': WHATEVER THE INPUT: true; the input reads as it did. -/
def syntaxBackSpec : ChangeSpec := { name := "syntaxBack", fn := fun _ => fun
  | [d] => { results := [.lit (.bool true)], args := [d] }
  | _ => none }
def syntaxBackRow : OpenClaim := { program := "ytjkmhlfjheiekaagreatdoor", sum := "b862110fa9391fcfdd3fdeb2bb697106d0ac16b0cc212c04da25ddc929ec7eed", func := "supercargo/supercargolaw28.SyntaxBack", spec := "syntaxBack", inPlace := ["internal/abi.NoEscape", "internal/bytealg.MakeNoZero"], unfollowed := true, recurses := true, named := ["supercargo/token.words", "supercargo/syntax.papers", "strconv.ErrSyntax", "strconv.ErrRange", "internal/strconv.uint64pow10", "math/bits.deBruijn32tab", "math/bits.deBruijn64tab"], loops := true, apart := false, laid := [("math/bits.deBruijn32tab", laid_math_bits_deBruijn32tab), ("math/bits.deBruijn64tab", laid_math_bits_deBruijn64tab), ("internal/strconv.uint64pow10", laid_internal_strconv_uint64pow10), ("strconv.ErrRange", laid_strconv_ErrRange), ("strconv.ErrSyntax", laid_strconv_ErrSyntax), ("supercargo/token.words", laid_supercargo_token_words), ("supercargo/syntax.papers", laid_supercargo_syntax_papers)] }
def SyntaxBackSaid : Prop := syntaxBackRow.holds Tryz.pinned (OpenSpec.ofChange syntaxBackSpec)

/-- ITS FALSE NEIGHBOUR: 'it returns false'. Refute it at one input. -/
def syntaxBackWrong : ChangeSpec := { name := "syntaxBack", fn := fun _ => fun
  | [d] => { results := [.lit (.bool false)], args := [d] }
  | _ => none }
def SyntaxBackWrongFalsely : Prop := syntaxBackRow.holds Tryz.pinned (OpenSpec.ofChange syntaxBackWrong)

/-- 'supercargolaw28.SyntaxCuts': WHATEVER THE INPUT: true; the input reads as it did. -/
def syntaxCutsSpec : ChangeSpec := { name := "syntaxCuts", fn := fun _ => fun
  | [d1, d2] => { results := [.lit (.bool true)], args := [d1, d2] }
  | _ => none }
def syntaxCutsRow : OpenClaim := { program := "ytjkmhlfjheiekaagreatdoor", sum := "b862110fa9391fcfdd3fdeb2bb697106d0ac16b0cc212c04da25ddc929ec7eed", func := "supercargo/supercargolaw28.SyntaxCuts", spec := "syntaxCuts", inPlace := ["internal/abi.NoEscape", "internal/bytealg.MakeNoZero"], unfollowed := true, recurses := true, named := ["supercargo/token.words", "supercargo/syntax.papers", "strconv.ErrSyntax", "strconv.ErrRange", "internal/strconv.uint64pow10", "math/bits.deBruijn32tab", "math/bits.deBruijn64tab"], loops := true, apart := false, laid := [("math/bits.deBruijn32tab", laid_math_bits_deBruijn32tab), ("math/bits.deBruijn64tab", laid_math_bits_deBruijn64tab), ("internal/strconv.uint64pow10", laid_internal_strconv_uint64pow10), ("strconv.ErrRange", laid_strconv_ErrRange), ("strconv.ErrSyntax", laid_strconv_ErrSyntax), ("supercargo/token.words", laid_supercargo_token_words), ("supercargo/syntax.papers", laid_supercargo_syntax_papers)] }
def SyntaxCutsSaid : Prop := syntaxCutsRow.holds Tryz.pinned (OpenSpec.ofChange syntaxCutsSpec)

/-- ITS FALSE NEIGHBOUR: 'it returns false'. Refute it at one input. -/
def syntaxCutsWrong : ChangeSpec := { name := "syntaxCuts", fn := fun _ => fun
  | [d1, d2] => { results := [.lit (.bool false)], args := [d1, d2] }
  | _ => none }
def SyntaxCutsWrongFalsely : Prop := syntaxCutsRow.holds Tryz.pinned (OpenSpec.ofChange syntaxCutsWrong)

/-- 'supercargolaw28.SyntaxStands': WHATEVER THE INPUT: true; the input reads as it did. -/
def syntaxStandsSpec : ChangeSpec := { name := "syntaxStands", fn := fun _ => fun
  | [d] => { results := [.lit (.bool true)], args := [d] }
  | _ => none }
def syntaxStandsRow : OpenClaim := { program := "ytjkmhlfjheiekaagreatdoor", sum := "b862110fa9391fcfdd3fdeb2bb697106d0ac16b0cc212c04da25ddc929ec7eed", func := "supercargo/supercargolaw28.SyntaxStands", spec := "syntaxStands", inPlace := ["internal/abi.NoEscape", "internal/bytealg.MakeNoZero"], unfollowed := true, recurses := true, named := ["supercargo/token.words", "supercargo/syntax.papers", "strconv.ErrSyntax", "strconv.ErrRange", "internal/strconv.uint64pow10", "math/bits.deBruijn32tab", "math/bits.deBruijn64tab"], apart := false, laid := [("math/bits.deBruijn32tab", laid_math_bits_deBruijn32tab), ("math/bits.deBruijn64tab", laid_math_bits_deBruijn64tab), ("internal/strconv.uint64pow10", laid_internal_strconv_uint64pow10), ("strconv.ErrRange", laid_strconv_ErrRange), ("strconv.ErrSyntax", laid_strconv_ErrSyntax), ("supercargo/token.words", laid_supercargo_token_words), ("supercargo/syntax.papers", laid_supercargo_syntax_papers)] }
def SyntaxStandsSaid : Prop := syntaxStandsRow.holds Tryz.pinned (OpenSpec.ofChange syntaxStandsSpec)

/-- ITS FALSE NEIGHBOUR: 'it returns false'. Refute it at one input. -/
def syntaxStandsWrong : ChangeSpec := { name := "syntaxStands", fn := fun _ => fun
  | [d] => { results := [.lit (.bool false)], args := [d] }
  | _ => none }
def SyntaxStandsWrongFalsely : Prop := syntaxStandsRow.holds Tryz.pinned (OpenSpec.ofChange syntaxStandsWrong)

/-- 'supercargolaw28.SyntaxTokens': WHATEVER THE INPUT: true; the input reads as it did. -/
def syntaxTokensSpec : ChangeSpec := { name := "syntaxTokens", fn := fun _ => fun
  | [d] => { results := [.lit (.bool true)], args := [d] }
  | _ => none }
def syntaxTokensRow : OpenClaim := { program := "ytjkmhlfjheiekaagreatdoor", sum := "b862110fa9391fcfdd3fdeb2bb697106d0ac16b0cc212c04da25ddc929ec7eed", func := "supercargo/supercargolaw28.SyntaxTokens", spec := "syntaxTokens", inPlace := ["internal/abi.NoEscape", "internal/bytealg.MakeNoZero"], unfollowed := true, recurses := true, named := ["supercargo/token.words", "supercargo/syntax.papers", "strconv.ErrSyntax", "strconv.ErrRange", "internal/strconv.uint64pow10", "math/bits.deBruijn32tab", "math/bits.deBruijn64tab"], loops := true, apart := false, laid := [("math/bits.deBruijn32tab", laid_math_bits_deBruijn32tab), ("math/bits.deBruijn64tab", laid_math_bits_deBruijn64tab), ("internal/strconv.uint64pow10", laid_internal_strconv_uint64pow10), ("strconv.ErrRange", laid_strconv_ErrRange), ("strconv.ErrSyntax", laid_strconv_ErrSyntax), ("supercargo/token.words", laid_supercargo_token_words), ("supercargo/syntax.papers", laid_supercargo_syntax_papers)] }
def SyntaxTokensSaid : Prop := syntaxTokensRow.holds Tryz.pinned (OpenSpec.ofChange syntaxTokensSpec)

/-- ITS FALSE NEIGHBOUR: 'it returns false'. Refute it at one input. -/
def syntaxTokensWrong : ChangeSpec := { name := "syntaxTokens", fn := fun _ => fun
  | [d] => { results := [.lit (.bool false)], args := [d] }
  | _ => none }
def SyntaxTokensWrongFalsely : Prop := syntaxTokensRow.holds Tryz.pinned (OpenSpec.ofChange syntaxTokensWrong)

/- THE SECOND FORM. 'bulk': how many values and letters a reading holds, each counted each time it is reached (what is shared counts as often as it is met; a slice's spare places count too). A statement '..UptoSaid' is the law's where the arguments, and the package variables that the reading takes, are together of bulk at most 1048576: NARROWER than '..Said'. Prove '..Said' where nothing that the law and all that it calls make is longer than what came in: it says more and counts as full. Else prove '..UptoSaid'. A law counts once. -/
mutual
def uptoBulk {H : Type} : DataW H → Nat
  | .lit (.string bytes) => bytes.length + 1
  | .lit _ => 1
  | .nil => 1
  | .ptr d => uptoBulk d + 1
  | .slice elems spare => uptoBulkAll elems + uptoBulkAll spare + 1
  | .agg parts => uptoBulkAll parts + 1
  | .iface _ d => uptoBulk d + 1
  | .map entries => uptoBulkEntries entries + 1
  | .held _ => 1
def uptoBulkAll {H : Type} : List (DataW H) → Nat
  | [] => 0
  | d :: r => uptoBulk d + uptoBulkAll r
def uptoBulkEntries {H : Type} : List (Lit × DataW H) → Nat
  | [] => 0
  | x :: r => uptoBulkEntry x + uptoBulkEntries r
def uptoBulkEntry {H : Type} : Lit × DataW H → Nat
  | (.string bytes, d) => bytes.length + uptoBulk d + 1
  | (_, d) => uptoBulk d + 1
 end
def uptoSmall : (H : Type) → List (DataW H) → Bool := fun _ ds => decide (uptoBulkAll ds ≤ 1048576)
def OpenSpec.upto (s : _root_.Go.ChangeSpec) : _root_.Go.OpenSpec := { _root_.Go.OpenSpec.ofChange s with cond := some uptoSmall }

/-- 'supercargolaw28.SyntaxRules', WHERE WHAT IT READS IS OF BULK AT MOST 1048576: true; the input reads as it did. -/
def syntaxRulesUptoRow : OpenClaim := { program := "ytjkmhlfjheiekaagreatdoor", sum := "b862110fa9391fcfdd3fdeb2bb697106d0ac16b0cc212c04da25ddc929ec7eed", func := "supercargo/supercargolaw28.SyntaxRules", spec := "syntaxRules", inPlace := ["internal/abi.NoEscape"], unfollowed := true, recurses := true, named := ["supercargo/token.words", "supercargo/syntax.papers", "strconv.ErrSyntax", "strconv.ErrRange", "internal/strconv.uint64pow10", "math/bits.deBruijn32tab", "math/bits.deBruijn64tab"], apart := false, laid := [("math/bits.deBruijn32tab", laid_math_bits_deBruijn32tab), ("math/bits.deBruijn64tab", laid_math_bits_deBruijn64tab), ("internal/strconv.uint64pow10", laid_internal_strconv_uint64pow10), ("strconv.ErrRange", laid_strconv_ErrRange), ("strconv.ErrSyntax", laid_strconv_ErrSyntax), ("supercargo/token.words", laid_supercargo_token_words), ("supercargo/syntax.papers", laid_supercargo_syntax_papers)], narrowed := true }
def SyntaxRulesUptoSaid : Prop := syntaxRulesUptoRow.holds Tryz.pinned (OpenSpec.upto syntaxRulesSpec)

/-- 'supercargolaw28.SyntaxShows', WHERE WHAT IT READS IS OF BULK AT MOST 1048576: true; the input reads as it did. -/
def syntaxShowsUptoRow : OpenClaim := { program := "ytjkmhlfjheiekaagreatdoor", sum := "b862110fa9391fcfdd3fdeb2bb697106d0ac16b0cc212c04da25ddc929ec7eed", func := "supercargo/supercargolaw28.SyntaxShows", spec := "syntaxShows", inPlace := ["internal/abi.NoEscape"], unfollowed := true, recurses := true, named := ["supercargo/token.words", "supercargo/syntax.papers", "strconv.ErrSyntax", "strconv.ErrRange", "internal/strconv.uint64pow10", "math/bits.deBruijn32tab", "math/bits.deBruijn64tab"], loops := true, apart := false, laid := [("math/bits.deBruijn32tab", laid_math_bits_deBruijn32tab), ("math/bits.deBruijn64tab", laid_math_bits_deBruijn64tab), ("internal/strconv.uint64pow10", laid_internal_strconv_uint64pow10), ("strconv.ErrRange", laid_strconv_ErrRange), ("strconv.ErrSyntax", laid_strconv_ErrSyntax), ("supercargo/token.words", laid_supercargo_token_words), ("supercargo/syntax.papers", laid_supercargo_syntax_papers)], narrowed := true }
def SyntaxShowsUptoSaid : Prop := syntaxShowsUptoRow.holds Tryz.pinned (OpenSpec.upto syntaxShowsSpec)

/-- 'supercargolaw28.SyntaxSame', WHERE WHAT IT READS IS OF BULK AT MOST 1048576: true; the input reads as it did. -/
def syntaxSameUptoRow : OpenClaim := { program := "ytjkmhlfjheiekaagreatdoor", sum := "b862110fa9391fcfdd3fdeb2bb697106d0ac16b0cc212c04da25ddc929ec7eed", func := "supercargo/supercargolaw28.SyntaxSame", spec := "syntaxSame", inPlace := ["internal/abi.NoEscape"], unfollowed := true, recurses := true, named := ["supercargo/token.words", "supercargo/syntax.papers", "strconv.ErrSyntax", "strconv.ErrRange", "internal/strconv.uint64pow10", "math/bits.deBruijn32tab", "math/bits.deBruijn64tab"], loops := true, apart := false, laid := [("math/bits.deBruijn32tab", laid_math_bits_deBruijn32tab), ("math/bits.deBruijn64tab", laid_math_bits_deBruijn64tab), ("internal/strconv.uint64pow10", laid_internal_strconv_uint64pow10), ("strconv.ErrRange", laid_strconv_ErrRange), ("strconv.ErrSyntax", laid_strconv_ErrSyntax), ("supercargo/token.words", laid_supercargo_token_words), ("supercargo/syntax.papers", laid_supercargo_syntax_papers)], narrowed := true }
def SyntaxSameUptoSaid : Prop := syntaxSameUptoRow.holds Tryz.pinned (OpenSpec.upto syntaxSameSpec)

/-- 'supercargolaw28.SyntaxParses', WHERE WHAT IT READS IS OF BULK AT MOST 1048576: true; the input reads as it did. -/
def syntaxParsesUptoRow : OpenClaim := { program := "ytjkmhlfjheiekaagreatdoor", sum := "b862110fa9391fcfdd3fdeb2bb697106d0ac16b0cc212c04da25ddc929ec7eed", func := "supercargo/supercargolaw28.SyntaxParses", spec := "syntaxParses", inPlace := ["internal/abi.NoEscape"], unfollowed := true, recurses := true, named := ["supercargo/token.words", "supercargo/syntax.papers", "strconv.ErrSyntax", "strconv.ErrRange", "internal/strconv.uint64pow10", "math/bits.deBruijn32tab", "math/bits.deBruijn64tab"], apart := false, laid := [("math/bits.deBruijn32tab", laid_math_bits_deBruijn32tab), ("math/bits.deBruijn64tab", laid_math_bits_deBruijn64tab), ("internal/strconv.uint64pow10", laid_internal_strconv_uint64pow10), ("strconv.ErrRange", laid_strconv_ErrRange), ("strconv.ErrSyntax", laid_strconv_ErrSyntax), ("supercargo/token.words", laid_supercargo_token_words), ("supercargo/syntax.papers", laid_supercargo_syntax_papers)], narrowed := true }
def SyntaxParsesUptoSaid : Prop := syntaxParsesUptoRow.holds Tryz.pinned (OpenSpec.upto syntaxParsesSpec)

/-- 'supercargolaw28.SyntaxPrints', WHERE WHAT IT READS IS OF BULK AT MOST 1048576: true; the input reads as it did. -/
def syntaxPrintsUptoRow : OpenClaim := { program := "ytjkmhlfjheiekaagreatdoor", sum := "b862110fa9391fcfdd3fdeb2bb697106d0ac16b0cc212c04da25ddc929ec7eed", func := "supercargo/supercargolaw28.SyntaxPrints", spec := "syntaxPrints", inPlace := ["internal/abi.NoEscape", "internal/bytealg.MakeNoZero"], unfollowed := true, recurses := true, named := ["supercargo/token.words", "supercargo/syntax.papers", "strconv.ErrSyntax", "strconv.ErrRange", "internal/strconv.uint64pow10", "math/bits.deBruijn32tab", "math/bits.deBruijn64tab"], loops := true, apart := false, laid := [("math/bits.deBruijn32tab", laid_math_bits_deBruijn32tab), ("math/bits.deBruijn64tab", laid_math_bits_deBruijn64tab), ("internal/strconv.uint64pow10", laid_internal_strconv_uint64pow10), ("strconv.ErrRange", laid_strconv_ErrRange), ("strconv.ErrSyntax", laid_strconv_ErrSyntax), ("supercargo/token.words", laid_supercargo_token_words), ("supercargo/syntax.papers", laid_supercargo_syntax_papers)], narrowed := true }
def SyntaxPrintsUptoSaid : Prop := syntaxPrintsUptoRow.holds Tryz.pinned (OpenSpec.upto syntaxPrintsSpec)

/-- 'supercargolaw28.SyntaxBack', WHERE WHAT IT READS IS OF BULK AT MOST 1048576: true; the input reads as it did. -/
def syntaxBackUptoRow : OpenClaim := { program := "ytjkmhlfjheiekaagreatdoor", sum := "b862110fa9391fcfdd3fdeb2bb697106d0ac16b0cc212c04da25ddc929ec7eed", func := "supercargo/supercargolaw28.SyntaxBack", spec := "syntaxBack", inPlace := ["internal/abi.NoEscape", "internal/bytealg.MakeNoZero"], unfollowed := true, recurses := true, named := ["supercargo/token.words", "supercargo/syntax.papers", "strconv.ErrSyntax", "strconv.ErrRange", "internal/strconv.uint64pow10", "math/bits.deBruijn32tab", "math/bits.deBruijn64tab"], loops := true, apart := false, laid := [("math/bits.deBruijn32tab", laid_math_bits_deBruijn32tab), ("math/bits.deBruijn64tab", laid_math_bits_deBruijn64tab), ("internal/strconv.uint64pow10", laid_internal_strconv_uint64pow10), ("strconv.ErrRange", laid_strconv_ErrRange), ("strconv.ErrSyntax", laid_strconv_ErrSyntax), ("supercargo/token.words", laid_supercargo_token_words), ("supercargo/syntax.papers", laid_supercargo_syntax_papers)], narrowed := true }
def SyntaxBackUptoSaid : Prop := syntaxBackUptoRow.holds Tryz.pinned (OpenSpec.upto syntaxBackSpec)

/-- 'supercargolaw28.SyntaxCuts', WHERE WHAT IT READS IS OF BULK AT MOST 1048576: true; the input reads as it did. -/
def syntaxCutsUptoRow : OpenClaim := { program := "ytjkmhlfjheiekaagreatdoor", sum := "b862110fa9391fcfdd3fdeb2bb697106d0ac16b0cc212c04da25ddc929ec7eed", func := "supercargo/supercargolaw28.SyntaxCuts", spec := "syntaxCuts", inPlace := ["internal/abi.NoEscape", "internal/bytealg.MakeNoZero"], unfollowed := true, recurses := true, named := ["supercargo/token.words", "supercargo/syntax.papers", "strconv.ErrSyntax", "strconv.ErrRange", "internal/strconv.uint64pow10", "math/bits.deBruijn32tab", "math/bits.deBruijn64tab"], loops := true, apart := false, laid := [("math/bits.deBruijn32tab", laid_math_bits_deBruijn32tab), ("math/bits.deBruijn64tab", laid_math_bits_deBruijn64tab), ("internal/strconv.uint64pow10", laid_internal_strconv_uint64pow10), ("strconv.ErrRange", laid_strconv_ErrRange), ("strconv.ErrSyntax", laid_strconv_ErrSyntax), ("supercargo/token.words", laid_supercargo_token_words), ("supercargo/syntax.papers", laid_supercargo_syntax_papers)], narrowed := true }
def SyntaxCutsUptoSaid : Prop := syntaxCutsUptoRow.holds Tryz.pinned (OpenSpec.upto syntaxCutsSpec)

/-- 'supercargolaw28.SyntaxStands', WHERE WHAT IT READS IS OF BULK AT MOST 1048576: true; the input reads as it did. -/
def syntaxStandsUptoRow : OpenClaim := { program := "ytjkmhlfjheiekaagreatdoor", sum := "b862110fa9391fcfdd3fdeb2bb697106d0ac16b0cc212c04da25ddc929ec7eed", func := "supercargo/supercargolaw28.SyntaxStands", spec := "syntaxStands", inPlace := ["internal/abi.NoEscape", "internal/bytealg.MakeNoZero"], unfollowed := true, recurses := true, named := ["supercargo/token.words", "supercargo/syntax.papers", "strconv.ErrSyntax", "strconv.ErrRange", "internal/strconv.uint64pow10", "math/bits.deBruijn32tab", "math/bits.deBruijn64tab"], apart := false, laid := [("math/bits.deBruijn32tab", laid_math_bits_deBruijn32tab), ("math/bits.deBruijn64tab", laid_math_bits_deBruijn64tab), ("internal/strconv.uint64pow10", laid_internal_strconv_uint64pow10), ("strconv.ErrRange", laid_strconv_ErrRange), ("strconv.ErrSyntax", laid_strconv_ErrSyntax), ("supercargo/token.words", laid_supercargo_token_words), ("supercargo/syntax.papers", laid_supercargo_syntax_papers)], narrowed := true }
def SyntaxStandsUptoSaid : Prop := syntaxStandsUptoRow.holds Tryz.pinned (OpenSpec.upto syntaxStandsSpec)

/-- 'supercargolaw28.SyntaxTokens', WHERE WHAT IT READS IS OF BULK AT MOST 1048576: true; the input reads as it did. -/
def syntaxTokensUptoRow : OpenClaim := { program := "ytjkmhlfjheiekaagreatdoor", sum := "b862110fa9391fcfdd3fdeb2bb697106d0ac16b0cc212c04da25ddc929ec7eed", func := "supercargo/supercargolaw28.SyntaxTokens", spec := "syntaxTokens", inPlace := ["internal/abi.NoEscape", "internal/bytealg.MakeNoZero"], unfollowed := true, recurses := true, named := ["supercargo/token.words", "supercargo/syntax.papers", "strconv.ErrSyntax", "strconv.ErrRange", "internal/strconv.uint64pow10", "math/bits.deBruijn32tab", "math/bits.deBruijn64tab"], loops := true, apart := false, laid := [("math/bits.deBruijn32tab", laid_math_bits_deBruijn32tab), ("math/bits.deBruijn64tab", laid_math_bits_deBruijn64tab), ("internal/strconv.uint64pow10", laid_internal_strconv_uint64pow10), ("strconv.ErrRange", laid_strconv_ErrRange), ("strconv.ErrSyntax", laid_strconv_ErrSyntax), ("supercargo/token.words", laid_supercargo_token_words), ("supercargo/syntax.papers", laid_supercargo_syntax_papers)], narrowed := true }
def SyntaxTokensUptoSaid : Prop := syntaxTokensUptoRow.holds Tryz.pinned (OpenSpec.upto syntaxTokensSpec)

end Rows
end Go.Proofs.YtjkmhlfjheiekaaGreatDoor
