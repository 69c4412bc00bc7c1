/-
  NARROWER THAN 'FOR EVERY INPUT', by the rows' own cells (each row's printed sentence says how): LexerScansExactly: laid · LexerPairs: laid · LexerPositions: laid · LexerSeparators: laid · LexerErrorStays: laid · LexerComments: laid · LexerSymbols: laid · LexerFormats: laid · LexerRoundTrip: laid.
  DERIVED. THE GIVEN ROWS OF THIS SEAT. 9 by the template 'for every input the law returns true; each argument reads behind the call as it read before'; 0 by the template 'total and deterministic' (their statements: YtafoahojdiglfaaDoorTotals.lean).
  GIVEN WITH THE SEED: the statements are not yours to turn. If you find one false, say at which input.
  Laid BY PROGRAM, IN A SANDBOX (cutbox-rows.mjs): the forced cells as the released guide's own fill.sh prints them over the translation 3b15f33dfac14995… (all of the seat's roots in one cut). By AI agents, Wed Nov 11 2026. No macro, syntax, notation, axiom, sorry.
-/
import Derived.Test.YtafoahojdiglfaaDoorChecked
import GoSem.Claim
import GoSem.ClaimJoined
import GoSem.ClaimMapViews
import Derived.JoinedTies
import Derived.KernelRfl
namespace Go.Proofs.YtafoahojdiglfaaDoor
/- THE CELL 'sum', in the pinned program and in every row, IS THE sha256 OF THE DUMP (.gsa) THAT YtafoahojdiglfaaDoorProg.lean LOADS. Nothing in Lean hashes anything: it is a label: what it is worth is what the hold of that sum in a sandbox is worth. -/
noncomputable def Tryd.pinned : Pinned := { name := "ytafoahojdiglfaadoor", sum := "3b15f33dfac14995b6e1bd5fad046e6bda8157093d5ece98e64cc6312207b98f", checked := Tryd.checked }
namespace Rows
def none {H : Type} : Left H := { results := [], args := [] }

/- WHAT THE LISTED PACKAGE-LEVEL VARIABLES READ AS WHEN THE CALL BEGINS. Each datum BY PROGRAM (the guide's laid-datum.mjs) off the statement by which the dump's own 'gosem.cut.vars' lays the variable. In a bare row this is a premise. The card (YtafoahojdiglfaaDoorCards.lean) ties it to the program's text. -/
def laid_math_bits_deBruijn32tab {H : Type} : DataW H := .agg [.lit (.int .u8 0), .lit (.int .u8 1), .lit (.int .u8 28), .lit (.int .u8 2), .lit (.int .u8 29), .lit (.int .u8 14), .lit (.int .u8 24), .lit (.int .u8 3), .lit (.int .u8 30), .lit (.int .u8 22), .lit (.int .u8 20), .lit (.int .u8 15), .lit (.int .u8 25), .lit (.int .u8 17), .lit (.int .u8 4), .lit (.int .u8 8), .lit (.int .u8 31), .lit (.int .u8 27), .lit (.int .u8 13), .lit (.int .u8 23), .lit (.int .u8 21), .lit (.int .u8 19), .lit (.int .u8 16), .lit (.int .u8 7), .lit (.int .u8 26), .lit (.int .u8 12), .lit (.int .u8 18), .lit (.int .u8 6), .lit (.int .u8 11), .lit (.int .u8 5), .lit (.int .u8 10), .lit (.int .u8 9)]
def laid_math_bits_deBruijn64tab {H : Type} : DataW H := .agg [.lit (.int .u8 0), .lit (.int .u8 1), .lit (.int .u8 56), .lit (.int .u8 2), .lit (.int .u8 57), .lit (.int .u8 49), .lit (.int .u8 28), .lit (.int .u8 3), .lit (.int .u8 61), .lit (.int .u8 58), .lit (.int .u8 42), .lit (.int .u8 50), .lit (.int .u8 38), .lit (.int .u8 29), .lit (.int .u8 17), .lit (.int .u8 4), .lit (.int .u8 62), .lit (.int .u8 47), .lit (.int .u8 59), .lit (.int .u8 36), .lit (.int .u8 45), .lit (.int .u8 43), .lit (.int .u8 51), .lit (.int .u8 22), .lit (.int .u8 53), .lit (.int .u8 39), .lit (.int .u8 33), .lit (.int .u8 30), .lit (.int .u8 24), .lit (.int .u8 18), .lit (.int .u8 12), .lit (.int .u8 5), .lit (.int .u8 63), .lit (.int .u8 55), .lit (.int .u8 48), .lit (.int .u8 27), .lit (.int .u8 60), .lit (.int .u8 41), .lit (.int .u8 37), .lit (.int .u8 16), .lit (.int .u8 46), .lit (.int .u8 35), .lit (.int .u8 44), .lit (.int .u8 21), .lit (.int .u8 52), .lit (.int .u8 32), .lit (.int .u8 23), .lit (.int .u8 11), .lit (.int .u8 54), .lit (.int .u8 26), .lit (.int .u8 40), .lit (.int .u8 15), .lit (.int .u8 34), .lit (.int .u8 20), .lit (.int .u8 31), .lit (.int .u8 10), .lit (.int .u8 25), .lit (.int .u8 14), .lit (.int .u8 19), .lit (.int .u8 9), .lit (.int .u8 13), .lit (.int .u8 8), .lit (.int .u8 7), .lit (.int .u8 6)]
def laid_internal_strconv_uint64pow10 {H : Type} : DataW H := .agg [.lit (.int .u64 1), .lit (.int .u64 10), .lit (.int .u64 100), .lit (.int .u64 1000), .lit (.int .u64 10000), .lit (.int .u64 100000), .lit (.int .u64 1000000), .lit (.int .u64 10000000), .lit (.int .u64 100000000), .lit (.int .u64 1000000000), .lit (.int .u64 10000000000), .lit (.int .u64 100000000000), .lit (.int .u64 1000000000000), .lit (.int .u64 10000000000000), .lit (.int .u64 100000000000000), .lit (.int .u64 1000000000000000), .lit (.int .u64 10000000000000000), .lit (.int .u64 100000000000000000), .lit (.int .u64 1000000000000000000), .lit (.int .u64 10000000000000000000)]
def laid_strconv_ErrRange {H : Type} : DataW H := .iface "*errors.errorString" (.ptr (.agg [.lit (.string [118, 97, 108, 117, 101, 32, 111, 117, 116, 32, 111, 102, 32, 114, 97, 110, 103, 101])]))
def laid_strconv_ErrSyntax {H : Type} : DataW H := .iface "*errors.errorString" (.ptr (.agg [.lit (.string [105, 110, 118, 97, 108, 105, 100, 32, 115, 121, 110, 116, 97, 120])]))
def laid_cspcheck_lexer_keywords {H : Type} : DataW H := .slice [.lit (.string [97, 110, 100]), .lit (.string [111, 114]), .lit (.string [110, 111, 116]), .lit (.string [105, 102]), .lit (.string [116, 104, 101, 110]), .lit (.string [101, 108, 115, 101]), .lit (.string [108, 101, 116]), .lit (.string [119, 105, 116, 104, 105, 110]), .lit (.string [116, 114, 117, 101]), .lit (.string [102, 97, 108, 115, 101]), .lit (.string [100, 97, 116, 97, 116, 121, 112, 101]), .lit (.string [110, 97, 109, 101, 116, 121, 112, 101]), .lit (.string [99, 104, 97, 110, 110, 101, 108]), .lit (.string [109, 111, 100, 117, 108, 101]), .lit (.string [101, 120, 112, 111, 114, 116, 115]), .lit (.string [101, 110, 100, 109, 111, 100, 117, 108, 101]), .lit (.string [105, 110, 115, 116, 97, 110, 99, 101]), .lit (.string [84, 105, 109, 101, 100]), .lit (.string [101, 110, 100, 116, 105, 109, 101, 100]), .lit (.string [97, 115, 115, 101, 114, 116]), .lit (.string [83, 84, 79, 80]), .lit (.string [83, 75, 73, 80]), .lit (.string [68, 73, 86]), .lit (.string [99, 104, 97, 115, 101]), .lit (.string [112, 114, 105, 111, 114, 105, 116, 105, 115, 101])] []
def laid_cspcheck_lexer_symbols {H : Type} : DataW H := .slice [.lit (.string [91, 70, 68, 61]), .lit (.string [124, 126, 124]), .lit (.string [124, 124, 124]), .lit (.string [60, 45, 62]), .lit (.string [91, 84, 61]), .lit (.string [91, 70, 61]), .lit (.string [124, 124]), .lit (.string [124, 93]), .lit (.string [124, 62]), .lit (.string [124, 125]), .lit (.string [124, 41]), .lit (.string [91, 124]), .lit (.string [91, 93]), .lit (.string [91, 62]), .lit (.string [91, 43]), .lit (.string [91, 91]), .lit (.string [93, 93]), .lit (.string [43, 93]), .lit (.string [123, 124]), .lit (.string [40, 124]), .lit (.string [60, 45]), .lit (.string [60, 61]), .lit (.string [62, 61]), .lit (.string [45, 62]), .lit (.string [47, 92]), .lit (.string [61, 62]), .lit (.string [61, 61]), .lit (.string [33, 61]), .lit (.string [58, 58]), .lit (.string [46, 46]), .lit (.string [64, 64]), .lit (.string [124]), .lit (.string [91]), .lit (.string [93]), .lit (.string [123]), .lit (.string [125]), .lit (.string [40]), .lit (.string [41]), .lit (.string [60]), .lit (.string [62]), .lit (.string [43]), .lit (.string [45]), .lit (.string [42]), .lit (.string [47]), .lit (.string [37]), .lit (.string [92]), .lit (.string [61]), .lit (.string [33]), .lit (.string [58]), .lit (.string [59]), .lit (.string [44]), .lit (.string [46]), .lit (.string [63]), .lit (.string [36]), .lit (.string [64]), .lit (.string [38]), .lit (.string [94]), .lit (.string [35]), .lit (.string [95])] []

/-- 'cspchecklaw1.LexerScansExactly': WHATEVER THE INPUT: true; the input reads as it did. -/
def lexerScansExactlySpec : ChangeSpec := { name := "lexerScansExactly", fn := fun _ => fun
  | [d1, d2] => { results := [.lit (.bool true)], args := [d1, d2] }
  | _ => none }
def lexerScansExactlyRow : OpenClaim := { program := "ytafoahojdiglfaadoor", sum := "3b15f33dfac14995b6e1bd5fad046e6bda8157093d5ece98e64cc6312207b98f", func := "cspcheck/cspchecklaw1.LexerScansExactly", spec := "lexerScansExactly", inPlace := ["internal/bytealg.IndexByteString", "internal/bytealg.IndexString"], named := ["cspcheck/lexer.keywords", "strconv.ErrSyntax", "strconv.ErrRange", "internal/strconv.uint64pow10", "math/bits.deBruijn32tab", "math/bits.deBruijn64tab", "cspcheck/lexer.symbols", "internal/bytealg.MaxLen"], apart := false, laid := [("math/bits.deBruijn32tab", laid_math_bits_deBruijn32tab), ("math/bits.deBruijn64tab", laid_math_bits_deBruijn64tab), ("internal/strconv.uint64pow10", laid_internal_strconv_uint64pow10), ("strconv.ErrRange", laid_strconv_ErrRange), ("strconv.ErrSyntax", laid_strconv_ErrSyntax), ("cspcheck/lexer.keywords", laid_cspcheck_lexer_keywords), ("cspcheck/lexer.symbols", laid_cspcheck_lexer_symbols)] }
def LexerScansExactlySaid : Prop := lexerScansExactlyRow.holds Tryd.pinned (OpenSpec.ofChange lexerScansExactlySpec)

/-- ITS FALSE NEIGHBOUR: 'it returns false'. Refute it at one input. -/
def lexerScansExactlyWrong : ChangeSpec := { name := "lexerScansExactly", fn := fun _ => fun
  | [d1, d2] => { results := [.lit (.bool false)], args := [d1, d2] }
  | _ => none }
def LexerScansExactlyWrongFalsely : Prop := lexerScansExactlyRow.holds Tryd.pinned (OpenSpec.ofChange lexerScansExactlyWrong)

/-- 'cspchecklaw1.LexerPairs': WHATEVER THE INPUT: true; the input reads as it did. -/
def lexerPairsSpec : ChangeSpec := { name := "lexerPairs", fn := fun _ => fun
  | [d1, d2] => { results := [.lit (.bool true)], args := [d1, d2] }
  | _ => none }
def lexerPairsRow : OpenClaim := { program := "ytafoahojdiglfaadoor", sum := "3b15f33dfac14995b6e1bd5fad046e6bda8157093d5ece98e64cc6312207b98f", func := "cspcheck/cspchecklaw1.LexerPairs", spec := "lexerPairs", inPlace := ["internal/bytealg.IndexByteString", "internal/bytealg.IndexString"], named := ["cspcheck/lexer.keywords", "strconv.ErrSyntax", "strconv.ErrRange", "internal/strconv.uint64pow10", "math/bits.deBruijn32tab", "math/bits.deBruijn64tab", "cspcheck/lexer.symbols", "internal/bytealg.MaxLen"], apart := false, laid := [("math/bits.deBruijn32tab", laid_math_bits_deBruijn32tab), ("math/bits.deBruijn64tab", laid_math_bits_deBruijn64tab), ("internal/strconv.uint64pow10", laid_internal_strconv_uint64pow10), ("strconv.ErrRange", laid_strconv_ErrRange), ("strconv.ErrSyntax", laid_strconv_ErrSyntax), ("cspcheck/lexer.keywords", laid_cspcheck_lexer_keywords), ("cspcheck/lexer.symbols", laid_cspcheck_lexer_symbols)] }
def LexerPairsSaid : Prop := lexerPairsRow.holds Tryd.pinned (OpenSpec.ofChange lexerPairsSpec)

/-- ITS FALSE NEIGHBOUR: 'it returns false'. Refute it at one input. -/
def lexerPairsWrong : ChangeSpec := { name := "lexerPairs", fn := fun _ => fun
  | [d1, d2] => { results := [.lit (.bool false)], args := [d1, d2] }
  | _ => none }
def LexerPairsWrongFalsely : Prop := lexerPairsRow.holds Tryd.pinned (OpenSpec.ofChange lexerPairsWrong)

/-- 'cspchecklaw1.LexerPositions': WHATEVER THE INPUT: true; the input reads as it did. -/
def lexerPositionsSpec : ChangeSpec := { name := "lexerPositions", fn := fun _ => fun
  | [d1, d2] => { results := [.lit (.bool true)], args := [d1, d2] }
  | _ => none }
def lexerPositionsRow : OpenClaim := { program := "ytafoahojdiglfaadoor", sum := "3b15f33dfac14995b6e1bd5fad046e6bda8157093d5ece98e64cc6312207b98f", func := "cspcheck/cspchecklaw1.LexerPositions", spec := "lexerPositions", inPlace := ["internal/bytealg.IndexByteString", "internal/bytealg.IndexString"], named := ["cspcheck/lexer.keywords", "strconv.ErrSyntax", "strconv.ErrRange", "internal/strconv.uint64pow10", "math/bits.deBruijn32tab", "math/bits.deBruijn64tab", "cspcheck/lexer.symbols", "internal/bytealg.MaxLen"], apart := false, laid := [("math/bits.deBruijn32tab", laid_math_bits_deBruijn32tab), ("math/bits.deBruijn64tab", laid_math_bits_deBruijn64tab), ("internal/strconv.uint64pow10", laid_internal_strconv_uint64pow10), ("strconv.ErrRange", laid_strconv_ErrRange), ("strconv.ErrSyntax", laid_strconv_ErrSyntax), ("cspcheck/lexer.keywords", laid_cspcheck_lexer_keywords), ("cspcheck/lexer.symbols", laid_cspcheck_lexer_symbols)] }
def LexerPositionsSaid : Prop := lexerPositionsRow.holds Tryd.pinned (OpenSpec.ofChange lexerPositionsSpec)

/-- ITS FALSE NEIGHBOUR: 'it returns false'. Refute it at one input. -/
def lexerPositionsWrong : ChangeSpec := { name := "lexerPositions", fn := fun _ => fun
  | [d1, d2] => { results := [.lit (.bool false)], args := [d1, d2] }
  | _ => none }
def LexerPositionsWrongFalsely : Prop := lexerPositionsRow.holds Tryd.pinned (OpenSpec.ofChange lexerPositionsWrong)

/-- 'cspchecklaw1.LexerSeparators': WHATEVER THE INPUT: true; the input reads as it did. -/
def lexerSeparatorsSpec : ChangeSpec := { name := "lexerSeparators", fn := fun _ => fun
  | [d1, d2] => { results := [.lit (.bool true)], args := [d1, d2] }
  | _ => none }
def lexerSeparatorsRow : OpenClaim := { program := "ytafoahojdiglfaadoor", sum := "3b15f33dfac14995b6e1bd5fad046e6bda8157093d5ece98e64cc6312207b98f", func := "cspcheck/cspchecklaw1.LexerSeparators", spec := "lexerSeparators", inPlace := ["internal/bytealg.IndexByteString", "internal/bytealg.IndexString"], named := ["cspcheck/lexer.keywords", "strconv.ErrSyntax", "strconv.ErrRange", "internal/strconv.uint64pow10", "math/bits.deBruijn32tab", "math/bits.deBruijn64tab", "cspcheck/lexer.symbols", "internal/bytealg.MaxLen"], apart := false, laid := [("math/bits.deBruijn32tab", laid_math_bits_deBruijn32tab), ("math/bits.deBruijn64tab", laid_math_bits_deBruijn64tab), ("internal/strconv.uint64pow10", laid_internal_strconv_uint64pow10), ("strconv.ErrRange", laid_strconv_ErrRange), ("strconv.ErrSyntax", laid_strconv_ErrSyntax), ("cspcheck/lexer.keywords", laid_cspcheck_lexer_keywords), ("cspcheck/lexer.symbols", laid_cspcheck_lexer_symbols)] }
def LexerSeparatorsSaid : Prop := lexerSeparatorsRow.holds Tryd.pinned (OpenSpec.ofChange lexerSeparatorsSpec)

/-- ITS FALSE NEIGHBOUR: 'it returns false'. Refute it at one input. -/
def lexerSeparatorsWrong : ChangeSpec := { name := "lexerSeparators", fn := fun _ => fun
  | [d1, d2] => { results := [.lit (.bool false)], args := [d1, d2] }
  | _ => none }
def LexerSeparatorsWrongFalsely : Prop := lexerSeparatorsRow.holds Tryd.pinned (OpenSpec.ofChange lexerSeparatorsWrong)

/-- 'cspchecklaw1.LexerErrorStays': WHATEVER THE INPUT: true; the input reads as it did. -/
def lexerErrorStaysSpec : ChangeSpec := { name := "lexerErrorStays", fn := fun _ => fun
  | [d1, d2] => { results := [.lit (.bool true)], args := [d1, d2] }
  | _ => none }
def lexerErrorStaysRow : OpenClaim := { program := "ytafoahojdiglfaadoor", sum := "3b15f33dfac14995b6e1bd5fad046e6bda8157093d5ece98e64cc6312207b98f", func := "cspcheck/cspchecklaw1.LexerErrorStays", spec := "lexerErrorStays", inPlace := ["internal/bytealg.IndexByteString", "internal/bytealg.IndexString"], named := ["cspcheck/lexer.keywords", "strconv.ErrSyntax", "strconv.ErrRange", "internal/strconv.uint64pow10", "math/bits.deBruijn32tab", "math/bits.deBruijn64tab", "cspcheck/lexer.symbols", "internal/bytealg.MaxLen"], apart := false, laid := [("math/bits.deBruijn32tab", laid_math_bits_deBruijn32tab), ("math/bits.deBruijn64tab", laid_math_bits_deBruijn64tab), ("internal/strconv.uint64pow10", laid_internal_strconv_uint64pow10), ("strconv.ErrRange", laid_strconv_ErrRange), ("strconv.ErrSyntax", laid_strconv_ErrSyntax), ("cspcheck/lexer.keywords", laid_cspcheck_lexer_keywords), ("cspcheck/lexer.symbols", laid_cspcheck_lexer_symbols)] }
def LexerErrorStaysSaid : Prop := lexerErrorStaysRow.holds Tryd.pinned (OpenSpec.ofChange lexerErrorStaysSpec)

/-- ITS FALSE NEIGHBOUR: 'it returns false'. Refute it at one input. -/
def lexerErrorStaysWrong : ChangeSpec := { name := "lexerErrorStays", fn := fun _ => fun
  | [d1, d2] => { results := [.lit (.bool false)], args := [d1, d2] }
  | _ => none }
def LexerErrorStaysWrongFalsely : Prop := lexerErrorStaysRow.holds Tryd.pinned (OpenSpec.ofChange lexerErrorStaysWrong)

/-- 'cspchecklaw1.LexerComments': WHATEVER THE INPUT: true; the input reads as it did. -/
def lexerCommentsSpec : ChangeSpec := { name := "lexerComments", fn := fun _ => fun
  | [d1, d2] => { results := [.lit (.bool true)], args := [d1, d2] }
  | _ => none }
def lexerCommentsRow : OpenClaim := { program := "ytafoahojdiglfaadoor", sum := "3b15f33dfac14995b6e1bd5fad046e6bda8157093d5ece98e64cc6312207b98f", func := "cspcheck/cspchecklaw1.LexerComments", spec := "lexerComments", inPlace := ["internal/bytealg.IndexByteString", "internal/bytealg.IndexString"], named := ["cspcheck/lexer.keywords", "strconv.ErrSyntax", "strconv.ErrRange", "internal/strconv.uint64pow10", "math/bits.deBruijn32tab", "math/bits.deBruijn64tab", "cspcheck/lexer.symbols", "internal/bytealg.MaxLen"], apart := false, laid := [("math/bits.deBruijn32tab", laid_math_bits_deBruijn32tab), ("math/bits.deBruijn64tab", laid_math_bits_deBruijn64tab), ("internal/strconv.uint64pow10", laid_internal_strconv_uint64pow10), ("strconv.ErrRange", laid_strconv_ErrRange), ("strconv.ErrSyntax", laid_strconv_ErrSyntax), ("cspcheck/lexer.keywords", laid_cspcheck_lexer_keywords), ("cspcheck/lexer.symbols", laid_cspcheck_lexer_symbols)] }
def LexerCommentsSaid : Prop := lexerCommentsRow.holds Tryd.pinned (OpenSpec.ofChange lexerCommentsSpec)

/-- ITS FALSE NEIGHBOUR: 'it returns false'. Refute it at one input. -/
def lexerCommentsWrong : ChangeSpec := { name := "lexerComments", fn := fun _ => fun
  | [d1, d2] => { results := [.lit (.bool false)], args := [d1, d2] }
  | _ => none }
def LexerCommentsWrongFalsely : Prop := lexerCommentsRow.holds Tryd.pinned (OpenSpec.ofChange lexerCommentsWrong)

/-- 'cspchecklaw1.LexerSymbols': WHATEVER THE INPUT: true; the input reads as it did. -/
def lexerSymbolsSpec : ChangeSpec := { name := "lexerSymbols", fn := fun _ => fun
  | [] => { results := [.lit (.bool true)], args := [] }
  | _ => none }
def lexerSymbolsRow : OpenClaim := { program := "ytafoahojdiglfaadoor", sum := "3b15f33dfac14995b6e1bd5fad046e6bda8157093d5ece98e64cc6312207b98f", func := "cspcheck/cspchecklaw1.LexerSymbols", spec := "lexerSymbols", inPlace := ["internal/bytealg.IndexByteString", "internal/bytealg.IndexString"], named := ["cspcheck/lexer.keywords", "strconv.ErrSyntax", "strconv.ErrRange", "internal/strconv.uint64pow10", "math/bits.deBruijn32tab", "math/bits.deBruijn64tab", "cspcheck/lexer.symbols", "internal/bytealg.MaxLen"], apart := false, laid := [("math/bits.deBruijn32tab", laid_math_bits_deBruijn32tab), ("math/bits.deBruijn64tab", laid_math_bits_deBruijn64tab), ("internal/strconv.uint64pow10", laid_internal_strconv_uint64pow10), ("strconv.ErrRange", laid_strconv_ErrRange), ("strconv.ErrSyntax", laid_strconv_ErrSyntax), ("cspcheck/lexer.keywords", laid_cspcheck_lexer_keywords), ("cspcheck/lexer.symbols", laid_cspcheck_lexer_symbols)] }
def LexerSymbolsSaid : Prop := lexerSymbolsRow.holds Tryd.pinned (OpenSpec.ofChange lexerSymbolsSpec)

/-- ITS FALSE NEIGHBOUR: 'it returns false'. Refute it at one input. -/
def lexerSymbolsWrong : ChangeSpec := { name := "lexerSymbols", fn := fun _ => fun
  | [] => { results := [.lit (.bool false)], args := [] }
  | _ => none }
def LexerSymbolsWrongFalsely : Prop := lexerSymbolsRow.holds Tryd.pinned (OpenSpec.ofChange lexerSymbolsWrong)

/-- 'cspchecklaw1.LexerFormats': WHATEVER THE INPUT: true; the input reads as it did. -/
def lexerFormatsSpec : ChangeSpec := { name := "lexerFormats", fn := fun _ => fun
  | [d1, d2] => { results := [.lit (.bool true)], args := [d1, d2] }
  | _ => none }
def lexerFormatsRow : OpenClaim := { program := "ytafoahojdiglfaadoor", sum := "3b15f33dfac14995b6e1bd5fad046e6bda8157093d5ece98e64cc6312207b98f", func := "cspcheck/cspchecklaw1.LexerFormats", spec := "lexerFormats", inPlace := ["internal/bytealg.IndexByteString", "internal/bytealg.IndexString", "internal/abi.NoEscape", "internal/bytealg.MakeNoZero"], named := ["cspcheck/lexer.keywords", "strconv.ErrSyntax", "strconv.ErrRange", "internal/strconv.uint64pow10", "math/bits.deBruijn32tab", "math/bits.deBruijn64tab", "cspcheck/lexer.symbols", "internal/bytealg.MaxLen"], apart := false, laid := [("math/bits.deBruijn32tab", laid_math_bits_deBruijn32tab), ("math/bits.deBruijn64tab", laid_math_bits_deBruijn64tab), ("internal/strconv.uint64pow10", laid_internal_strconv_uint64pow10), ("strconv.ErrRange", laid_strconv_ErrRange), ("strconv.ErrSyntax", laid_strconv_ErrSyntax), ("cspcheck/lexer.keywords", laid_cspcheck_lexer_keywords), ("cspcheck/lexer.symbols", laid_cspcheck_lexer_symbols)] }
def LexerFormatsSaid : Prop := lexerFormatsRow.holds Tryd.pinned (OpenSpec.ofChange lexerFormatsSpec)

/-- ITS FALSE NEIGHBOUR: 'it returns false'. Refute it at one input. -/
def lexerFormatsWrong : ChangeSpec := { name := "lexerFormats", fn := fun _ => fun
  | [d1, d2] => { results := [.lit (.bool false)], args := [d1, d2] }
  | _ => none }
def LexerFormatsWrongFalsely : Prop := lexerFormatsRow.holds Tryd.pinned (OpenSpec.ofChange lexerFormatsWrong)

/-- 'cspchecklaw1.LexerRoundTrip': WHATEVER THE INPUT: true; the input reads as it did. -/
def lexerRoundTripSpec : ChangeSpec := { name := "lexerRoundTrip", fn := fun _ => fun
  | [d] => { results := [.lit (.bool true)], args := [d] }
  | _ => none }
def lexerRoundTripRow : OpenClaim := { program := "ytafoahojdiglfaadoor", sum := "3b15f33dfac14995b6e1bd5fad046e6bda8157093d5ece98e64cc6312207b98f", func := "cspcheck/cspchecklaw1.LexerRoundTrip", spec := "lexerRoundTrip", inPlace := ["internal/abi.NoEscape", "internal/bytealg.MakeNoZero", "internal/bytealg.IndexByteString", "internal/bytealg.IndexString"], named := ["cspcheck/lexer.keywords", "cspcheck/lexer.symbols", "internal/strconv.uint64pow10", "math/bits.deBruijn32tab", "math/bits.deBruijn64tab", "strconv.ErrSyntax", "strconv.ErrRange", "internal/bytealg.MaxLen"], apart := false, laid := [("math/bits.deBruijn32tab", laid_math_bits_deBruijn32tab), ("math/bits.deBruijn64tab", laid_math_bits_deBruijn64tab), ("internal/strconv.uint64pow10", laid_internal_strconv_uint64pow10), ("strconv.ErrRange", laid_strconv_ErrRange), ("strconv.ErrSyntax", laid_strconv_ErrSyntax), ("cspcheck/lexer.keywords", laid_cspcheck_lexer_keywords), ("cspcheck/lexer.symbols", laid_cspcheck_lexer_symbols)] }
def LexerRoundTripSaid : Prop := lexerRoundTripRow.holds Tryd.pinned (OpenSpec.ofChange lexerRoundTripSpec)

/-- ITS FALSE NEIGHBOUR: 'it returns false'. Refute it at one input. -/
def lexerRoundTripWrong : ChangeSpec := { name := "lexerRoundTrip", fn := fun _ => fun
  | [d] => { results := [.lit (.bool false)], args := [d] }
  | _ => none }
def LexerRoundTripWrongFalsely : Prop := lexerRoundTripRow.holds Tryd.pinned (OpenSpec.ofChange lexerRoundTripWrong)

/- THE SECOND FORM. 'bulk': how many values and letters a reading holds, each counted each time it is reached (what is shared counts as often as it is met; a slice's spare places count too). A statement '..UptoSaid' is the law's where the arguments, and the package variables that the reading takes, are together of bulk at most 1048576: NARROWER than '..Said'. Prove '..Said' where nothing that the law and all that it calls make is longer than what came in: it says more and counts as full. Else prove '..UptoSaid'. A law counts once. -/
mutual
def uptoBulk {H : Type} : DataW H → Nat
  | .lit (.string bytes) => bytes.length + 1
  | .lit _ => 1
  | .nil => 1
  | .ptr d => uptoBulk d + 1
  | .slice elems spare => uptoBulkAll elems + uptoBulkAll spare + 1
  | .agg parts => uptoBulkAll parts + 1
  | .iface _ d => uptoBulk d + 1
  | .map entries => uptoBulkEntries entries + 1
  | .held _ => 1
def uptoBulkAll {H : Type} : List (DataW H) → Nat
  | [] => 0
  | d :: r => uptoBulk d + uptoBulkAll r
def uptoBulkEntries {H : Type} : List (Lit × DataW H) → Nat
  | [] => 0
  | x :: r => uptoBulkEntry x + uptoBulkEntries r
def uptoBulkEntry {H : Type} : Lit × DataW H → Nat
  | (.string bytes, d) => bytes.length + uptoBulk d + 1
  | (_, d) => uptoBulk d + 1
 end
def uptoSmall : (H : Type) → List (DataW H) → Bool := fun _ ds => decide (uptoBulkAll ds ≤ 1048576)
def OpenSpec.upto (s : _root_.Go.ChangeSpec) : _root_.Go.OpenSpec := { _root_.Go.OpenSpec.ofChange s with cond := some uptoSmall }

/-- 'cspchecklaw1.LexerScansExactly', WHERE WHAT IT READS IS OF BULK AT MOST 1048576: true; the input reads as it did. -/
def lexerScansExactlyUptoRow : OpenClaim := { program := "ytafoahojdiglfaadoor", sum := "3b15f33dfac14995b6e1bd5fad046e6bda8157093d5ece98e64cc6312207b98f", func := "cspcheck/cspchecklaw1.LexerScansExactly", spec := "lexerScansExactly", inPlace := ["internal/bytealg.IndexByteString", "internal/bytealg.IndexString"], named := ["cspcheck/lexer.keywords", "strconv.ErrSyntax", "strconv.ErrRange", "internal/strconv.uint64pow10", "math/bits.deBruijn32tab", "math/bits.deBruijn64tab", "cspcheck/lexer.symbols", "internal/bytealg.MaxLen"], apart := false, laid := [("math/bits.deBruijn32tab", laid_math_bits_deBruijn32tab), ("math/bits.deBruijn64tab", laid_math_bits_deBruijn64tab), ("internal/strconv.uint64pow10", laid_internal_strconv_uint64pow10), ("strconv.ErrRange", laid_strconv_ErrRange), ("strconv.ErrSyntax", laid_strconv_ErrSyntax), ("cspcheck/lexer.keywords", laid_cspcheck_lexer_keywords), ("cspcheck/lexer.symbols", laid_cspcheck_lexer_symbols)], narrowed := true }
def LexerScansExactlyUptoSaid : Prop := lexerScansExactlyUptoRow.holds Tryd.pinned (OpenSpec.upto lexerScansExactlySpec)

/-- 'cspchecklaw1.LexerPairs', WHERE WHAT IT READS IS OF BULK AT MOST 1048576: true; the input reads as it did. -/
def lexerPairsUptoRow : OpenClaim := { program := "ytafoahojdiglfaadoor", sum := "3b15f33dfac14995b6e1bd5fad046e6bda8157093d5ece98e64cc6312207b98f", func := "cspcheck/cspchecklaw1.LexerPairs", spec := "lexerPairs", inPlace := ["internal/bytealg.IndexByteString", "internal/bytealg.IndexString"], named := ["cspcheck/lexer.keywords", "strconv.ErrSyntax", "strconv.ErrRange", "internal/strconv.uint64pow10", "math/bits.deBruijn32tab", "math/bits.deBruijn64tab", "cspcheck/lexer.symbols", "internal/bytealg.MaxLen"], apart := false, laid := [("math/bits.deBruijn32tab", laid_math_bits_deBruijn32tab), ("math/bits.deBruijn64tab", laid_math_bits_deBruijn64tab), ("internal/strconv.uint64pow10", laid_internal_strconv_uint64pow10), ("strconv.ErrRange", laid_strconv_ErrRange), ("strconv.ErrSyntax", laid_strconv_ErrSyntax), ("cspcheck/lexer.keywords", laid_cspcheck_lexer_keywords), ("cspcheck/lexer.symbols", laid_cspcheck_lexer_symbols)], narrowed := true }
def LexerPairsUptoSaid : Prop := lexerPairsUptoRow.holds Tryd.pinned (OpenSpec.upto lexerPairsSpec)

/-- 'cspchecklaw1.LexerPositions', WHERE WHAT IT READS IS OF BULK AT MOST 1048576: true; the input reads as it did. -/
def lexerPositionsUptoRow : OpenClaim := { program := "ytafoahojdiglfaadoor", sum := "3b15f33dfac14995b6e1bd5fad046e6bda8157093d5ece98e64cc6312207b98f", func := "cspcheck/cspchecklaw1.LexerPositions", spec := "lexerPositions", inPlace := ["internal/bytealg.IndexByteString", "internal/bytealg.IndexString"], named := ["cspcheck/lexer.keywords", "strconv.ErrSyntax", "strconv.ErrRange", "internal/strconv.uint64pow10", "math/bits.deBruijn32tab", "math/bits.deBruijn64tab", "cspcheck/lexer.symbols", "internal/bytealg.MaxLen"], apart := false, laid := [("math/bits.deBruijn32tab", laid_math_bits_deBruijn32tab), ("math/bits.deBruijn64tab", laid_math_bits_deBruijn64tab), ("internal/strconv.uint64pow10", laid_internal_strconv_uint64pow10), ("strconv.ErrRange", laid_strconv_ErrRange), ("strconv.ErrSyntax", laid_strconv_ErrSyntax), ("cspcheck/lexer.keywords", laid_cspcheck_lexer_keywords), ("cspcheck/lexer.symbols", laid_cspcheck_lexer_symbols)], narrowed := true }
def LexerPositionsUptoSaid : Prop := lexerPositionsUptoRow.holds Tryd.pinned (OpenSpec.upto lexerPositionsSpec)

/-- 'cspchecklaw1.LexerSeparators', WHERE WHAT IT READS IS OF BULK AT MOST 1048576: true; the input reads as it did. -/
def lexerSeparatorsUptoRow : OpenClaim := { program := "ytafoahojdiglfaadoor", sum := "3b15f33dfac14995b6e1bd5fad046e6bda8157093d5ece98e64cc6312207b98f", func := "cspcheck/cspchecklaw1.LexerSeparators", spec := "lexerSeparators", inPlace := ["internal/bytealg.IndexByteString", "internal/bytealg.IndexString"], named := ["cspcheck/lexer.keywords", "strconv.ErrSyntax", "strconv.ErrRange", "internal/strconv.uint64pow10", "math/bits.deBruijn32tab", "math/bits.deBruijn64tab", "cspcheck/lexer.symbols", "internal/bytealg.MaxLen"], apart := false, laid := [("math/bits.deBruijn32tab", laid_math_bits_deBruijn32tab), ("math/bits.deBruijn64tab", laid_math_bits_deBruijn64tab), ("internal/strconv.uint64pow10", laid_internal_strconv_uint64pow10), ("strconv.ErrRange", laid_strconv_ErrRange), ("strconv.ErrSyntax", laid_strconv_ErrSyntax), ("cspcheck/lexer.keywords", laid_cspcheck_lexer_keywords), ("cspcheck/lexer.symbols", laid_cspcheck_lexer_symbols)], narrowed := true }
def LexerSeparatorsUptoSaid : Prop := lexerSeparatorsUptoRow.holds Tryd.pinned (OpenSpec.upto lexerSeparatorsSpec)

/-- 'cspchecklaw1.LexerErrorStays', WHERE WHAT IT READS IS OF BULK AT MOST 1048576: true; the input reads as it did. -/
def lexerErrorStaysUptoRow : OpenClaim := { program := "ytafoahojdiglfaadoor", sum := "3b15f33dfac14995b6e1bd5fad046e6bda8157093d5ece98e64cc6312207b98f", func := "cspcheck/cspchecklaw1.LexerErrorStays", spec := "lexerErrorStays", inPlace := ["internal/bytealg.IndexByteString", "internal/bytealg.IndexString"], named := ["cspcheck/lexer.keywords", "strconv.ErrSyntax", "strconv.ErrRange", "internal/strconv.uint64pow10", "math/bits.deBruijn32tab", "math/bits.deBruijn64tab", "cspcheck/lexer.symbols", "internal/bytealg.MaxLen"], apart := false, laid := [("math/bits.deBruijn32tab", laid_math_bits_deBruijn32tab), ("math/bits.deBruijn64tab", laid_math_bits_deBruijn64tab), ("internal/strconv.uint64pow10", laid_internal_strconv_uint64pow10), ("strconv.ErrRange", laid_strconv_ErrRange), ("strconv.ErrSyntax", laid_strconv_ErrSyntax), ("cspcheck/lexer.keywords", laid_cspcheck_lexer_keywords), ("cspcheck/lexer.symbols", laid_cspcheck_lexer_symbols)], narrowed := true }
def LexerErrorStaysUptoSaid : Prop := lexerErrorStaysUptoRow.holds Tryd.pinned (OpenSpec.upto lexerErrorStaysSpec)

/-- 'cspchecklaw1.LexerComments', WHERE WHAT IT READS IS OF BULK AT MOST 1048576: true; the input reads as it did. -/
def lexerCommentsUptoRow : OpenClaim := { program := "ytafoahojdiglfaadoor", sum := "3b15f33dfac14995b6e1bd5fad046e6bda8157093d5ece98e64cc6312207b98f", func := "cspcheck/cspchecklaw1.LexerComments", spec := "lexerComments", inPlace := ["internal/bytealg.IndexByteString", "internal/bytealg.IndexString"], named := ["cspcheck/lexer.keywords", "strconv.ErrSyntax", "strconv.ErrRange", "internal/strconv.uint64pow10", "math/bits.deBruijn32tab", "math/bits.deBruijn64tab", "cspcheck/lexer.symbols", "internal/bytealg.MaxLen"], apart := false, laid := [("math/bits.deBruijn32tab", laid_math_bits_deBruijn32tab), ("math/bits.deBruijn64tab", laid_math_bits_deBruijn64tab), ("internal/strconv.uint64pow10", laid_internal_strconv_uint64pow10), ("strconv.ErrRange", laid_strconv_ErrRange), ("strconv.ErrSyntax", laid_strconv_ErrSyntax), ("cspcheck/lexer.keywords", laid_cspcheck_lexer_keywords), ("cspcheck/lexer.symbols", laid_cspcheck_lexer_symbols)], narrowed := true }
def LexerCommentsUptoSaid : Prop := lexerCommentsUptoRow.holds Tryd.pinned (OpenSpec.upto lexerCommentsSpec)

/-- 'cspchecklaw1.LexerSymbols', WHERE WHAT IT READS IS OF BULK AT MOST 1048576: true; the input reads as it did. -/
def lexerSymbolsUptoRow : OpenClaim := { program := "ytafoahojdiglfaadoor", sum := "3b15f33dfac14995b6e1bd5fad046e6bda8157093d5ece98e64cc6312207b98f", func := "cspcheck/cspchecklaw1.LexerSymbols", spec := "lexerSymbols", inPlace := ["internal/bytealg.IndexByteString", "internal/bytealg.IndexString"], named := ["cspcheck/lexer.keywords", "strconv.ErrSyntax", "strconv.ErrRange", "internal/strconv.uint64pow10", "math/bits.deBruijn32tab", "math/bits.deBruijn64tab", "cspcheck/lexer.symbols", "internal/bytealg.MaxLen"], apart := false, laid := [("math/bits.deBruijn32tab", laid_math_bits_deBruijn32tab), ("math/bits.deBruijn64tab", laid_math_bits_deBruijn64tab), ("internal/strconv.uint64pow10", laid_internal_strconv_uint64pow10), ("strconv.ErrRange", laid_strconv_ErrRange), ("strconv.ErrSyntax", laid_strconv_ErrSyntax), ("cspcheck/lexer.keywords", laid_cspcheck_lexer_keywords), ("cspcheck/lexer.symbols", laid_cspcheck_lexer_symbols)], narrowed := true }
def LexerSymbolsUptoSaid : Prop := lexerSymbolsUptoRow.holds Tryd.pinned (OpenSpec.upto lexerSymbolsSpec)

/-- 'cspchecklaw1.LexerFormats', WHERE WHAT IT READS IS OF BULK AT MOST 1048576: true; the input reads as it did. -/
def lexerFormatsUptoRow : OpenClaim := { program := "ytafoahojdiglfaadoor", sum := "3b15f33dfac14995b6e1bd5fad046e6bda8157093d5ece98e64cc6312207b98f", func := "cspcheck/cspchecklaw1.LexerFormats", spec := "lexerFormats", inPlace := ["internal/bytealg.IndexByteString", "internal/bytealg.IndexString", "internal/abi.NoEscape", "internal/bytealg.MakeNoZero"], named := ["cspcheck/lexer.keywords", "strconv.ErrSyntax", "strconv.ErrRange", "internal/strconv.uint64pow10", "math/bits.deBruijn32tab", "math/bits.deBruijn64tab", "cspcheck/lexer.symbols", "internal/bytealg.MaxLen"], apart := false, laid := [("math/bits.deBruijn32tab", laid_math_bits_deBruijn32tab), ("math/bits.deBruijn64tab", laid_math_bits_deBruijn64tab), ("internal/strconv.uint64pow10", laid_internal_strconv_uint64pow10), ("strconv.ErrRange", laid_strconv_ErrRange), ("strconv.ErrSyntax", laid_strconv_ErrSyntax), ("cspcheck/lexer.keywords", laid_cspcheck_lexer_keywords), ("cspcheck/lexer.symbols", laid_cspcheck_lexer_symbols)], narrowed := true }
def LexerFormatsUptoSaid : Prop := lexerFormatsUptoRow.holds Tryd.pinned (OpenSpec.upto lexerFormatsSpec)

/-- 'cspchecklaw1.LexerRoundTrip', WHERE WHAT IT READS IS OF BULK AT MOST 1048576: true; the input reads as it did. -/
def lexerRoundTripUptoRow : OpenClaim := { program := "ytafoahojdiglfaadoor", sum := "3b15f33dfac14995b6e1bd5fad046e6bda8157093d5ece98e64cc6312207b98f", func := "cspcheck/cspchecklaw1.LexerRoundTrip", spec := "lexerRoundTrip", inPlace := ["internal/abi.NoEscape", "internal/bytealg.MakeNoZero", "internal/bytealg.IndexByteString", "internal/bytealg.IndexString"], named := ["cspcheck/lexer.keywords", "cspcheck/lexer.symbols", "internal/strconv.uint64pow10", "math/bits.deBruijn32tab", "math/bits.deBruijn64tab", "strconv.ErrSyntax", "strconv.ErrRange", "internal/bytealg.MaxLen"], apart := false, laid := [("math/bits.deBruijn32tab", laid_math_bits_deBruijn32tab), ("math/bits.deBruijn64tab", laid_math_bits_deBruijn64tab), ("internal/strconv.uint64pow10", laid_internal_strconv_uint64pow10), ("strconv.ErrRange", laid_strconv_ErrRange), ("strconv.ErrSyntax", laid_strconv_ErrSyntax), ("cspcheck/lexer.keywords", laid_cspcheck_lexer_keywords), ("cspcheck/lexer.symbols", laid_cspcheck_lexer_symbols)], narrowed := true }
def LexerRoundTripUptoSaid : Prop := lexerRoundTripUptoRow.holds Tryd.pinned (OpenSpec.upto lexerRoundTripSpec)

end Rows
end Go.Proofs.YtafoahojdiglfaaDoor
