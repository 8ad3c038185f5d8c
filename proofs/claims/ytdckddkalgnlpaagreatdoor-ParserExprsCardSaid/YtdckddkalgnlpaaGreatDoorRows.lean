/-
  NARROWER THAN 'FOR EVERY INPUT', by the rows' own cells (each row's printed sentence says how): ParserPrograms: laid · ParserExprs: laid · ParserOffsets: laid · ParserJoins: laid · ParserSpaces: laid · ParserValid: laid.
  DERIVED. THE GIVEN ROWS OF THIS SEAT. 6 by the template 'for every input the law returns true; each argument reads behind the call as it read before'; 0 by the template 'total and deterministic' (their statements: YtdckddkalgnlpaaGreatDoorTotals.lean).
  GIVEN WITH THE SEED: the statements are not yours to turn. If you find one false, say at which input.
  Laid BY PROGRAM, IN A SANDBOX (cutbox-rows.mjs): the forced cells as the released guide's own fill.sh prints them over the translation a545e113bb2543b6… (all of the seat's roots in one cut). By AI agents, Wed Nov 11 2026. No macro, syntax, notation, axiom, sorry.
-/
import Derived.Test.YtdckddkalgnlpaaGreatDoorChecked
import GoSem.PinnedTables
import GoSem.Claim
import GoSem.ClaimJoined
import GoSem.ClaimMapViews
import Derived.JoinedTies
import Derived.KernelRfl
namespace Go.Proofs.YtdckddkalgnlpaaGreatDoor
/- THE CELL 'sum', in the pinned program and in every row, IS THE sha256 OF THE DUMP (.gsa) THAT YtdckddkalgnlpaaGreatDoorProg.lean LOADS. Nothing in Lean hashes anything: it is a label: what it is worth is what the hold of that sum in a sandbox is worth. -/
noncomputable def Tryz.pinned : Pinned := { name := "ytdckddkalgnlpaagreatdoor", sum := "a545e113bb2543b6b3ee868fa039413008350c66f27d9b28ae743bbc1a58694c", checked := Tryz.checked }
namespace Rows
def none {H : Type} : Left H := { results := [], args := [] }

/- WHAT THE LISTED PACKAGE-LEVEL VARIABLES READ AS WHEN THE CALL BEGINS. Each datum BY PROGRAM (the guide's laid-datum.mjs) off the statement by which the dump's own 'gosem.cut.vars' lays the variable. In a bare row this is a premise. The card (YtdckddkalgnlpaaGreatDoorCards.lean) ties it to the program's text. -/
def laid_math_bits_deBruijn32tab {H : Type} : DataW H := .agg [.lit (.int .u8 0), .lit (.int .u8 1), .lit (.int .u8 28), .lit (.int .u8 2), .lit (.int .u8 29), .lit (.int .u8 14), .lit (.int .u8 24), .lit (.int .u8 3), .lit (.int .u8 30), .lit (.int .u8 22), .lit (.int .u8 20), .lit (.int .u8 15), .lit (.int .u8 25), .lit (.int .u8 17), .lit (.int .u8 4), .lit (.int .u8 8), .lit (.int .u8 31), .lit (.int .u8 27), .lit (.int .u8 13), .lit (.int .u8 23), .lit (.int .u8 21), .lit (.int .u8 19), .lit (.int .u8 16), .lit (.int .u8 7), .lit (.int .u8 26), .lit (.int .u8 12), .lit (.int .u8 18), .lit (.int .u8 6), .lit (.int .u8 11), .lit (.int .u8 5), .lit (.int .u8 10), .lit (.int .u8 9)]
def laid_math_bits_deBruijn64tab {H : Type} : DataW H := .agg [.lit (.int .u8 0), .lit (.int .u8 1), .lit (.int .u8 56), .lit (.int .u8 2), .lit (.int .u8 57), .lit (.int .u8 49), .lit (.int .u8 28), .lit (.int .u8 3), .lit (.int .u8 61), .lit (.int .u8 58), .lit (.int .u8 42), .lit (.int .u8 50), .lit (.int .u8 38), .lit (.int .u8 29), .lit (.int .u8 17), .lit (.int .u8 4), .lit (.int .u8 62), .lit (.int .u8 47), .lit (.int .u8 59), .lit (.int .u8 36), .lit (.int .u8 45), .lit (.int .u8 43), .lit (.int .u8 51), .lit (.int .u8 22), .lit (.int .u8 53), .lit (.int .u8 39), .lit (.int .u8 33), .lit (.int .u8 30), .lit (.int .u8 24), .lit (.int .u8 18), .lit (.int .u8 12), .lit (.int .u8 5), .lit (.int .u8 63), .lit (.int .u8 55), .lit (.int .u8 48), .lit (.int .u8 27), .lit (.int .u8 60), .lit (.int .u8 41), .lit (.int .u8 37), .lit (.int .u8 16), .lit (.int .u8 46), .lit (.int .u8 35), .lit (.int .u8 44), .lit (.int .u8 21), .lit (.int .u8 52), .lit (.int .u8 32), .lit (.int .u8 23), .lit (.int .u8 11), .lit (.int .u8 54), .lit (.int .u8 26), .lit (.int .u8 40), .lit (.int .u8 15), .lit (.int .u8 34), .lit (.int .u8 20), .lit (.int .u8 31), .lit (.int .u8 10), .lit (.int .u8 25), .lit (.int .u8 14), .lit (.int .u8 19), .lit (.int .u8 9), .lit (.int .u8 13), .lit (.int .u8 8), .lit (.int .u8 7), .lit (.int .u8 6)]
def laid_internal_strconv_uint64pow10 {H : Type} : DataW H := .agg [.lit (.int .u64 1), .lit (.int .u64 10), .lit (.int .u64 100), .lit (.int .u64 1000), .lit (.int .u64 10000), .lit (.int .u64 100000), .lit (.int .u64 1000000), .lit (.int .u64 10000000), .lit (.int .u64 100000000), .lit (.int .u64 1000000000), .lit (.int .u64 10000000000), .lit (.int .u64 100000000000), .lit (.int .u64 1000000000000), .lit (.int .u64 10000000000000), .lit (.int .u64 100000000000000), .lit (.int .u64 1000000000000000), .lit (.int .u64 10000000000000000), .lit (.int .u64 100000000000000000), .lit (.int .u64 1000000000000000000), .lit (.int .u64 10000000000000000000)]
def laid_unicode_utf8_acceptRanges {H : Type} : DataW H := .agg [.agg [.lit (.int .u8 128), .lit (.int .u8 191)], .agg [.lit (.int .u8 160), .lit (.int .u8 191)], .agg [.lit (.int .u8 128), .lit (.int .u8 159)], .agg [.lit (.int .u8 144), .lit (.int .u8 191)], .agg [.lit (.int .u8 128), .lit (.int .u8 143)], .agg [.lit (.int .u8 0), .lit (.int .u8 0)], .agg [.lit (.int .u8 0), .lit (.int .u8 0)], .agg [.lit (.int .u8 0), .lit (.int .u8 0)], .agg [.lit (.int .u8 0), .lit (.int .u8 0)], .agg [.lit (.int .u8 0), .lit (.int .u8 0)], .agg [.lit (.int .u8 0), .lit (.int .u8 0)], .agg [.lit (.int .u8 0), .lit (.int .u8 0)], .agg [.lit (.int .u8 0), .lit (.int .u8 0)], .agg [.lit (.int .u8 0), .lit (.int .u8 0)], .agg [.lit (.int .u8 0), .lit (.int .u8 0)], .agg [.lit (.int .u8 0), .lit (.int .u8 0)]]
def laid_strconv_ErrRange {H : Type} : DataW H := .iface "*errors.errorString" (.ptr (.agg [.lit (.string [118, 97, 108, 117, 101, 32, 111, 117, 116, 32, 111, 102, 32, 114, 97, 110, 103, 101])]))
def laid_strconv_ErrSyntax {H : Type} : DataW H := .iface "*errors.errorString" (.ptr (.agg [.lit (.string [105, 110, 118, 97, 108, 105, 100, 32, 115, 121, 110, 116, 97, 120])]))
def laid_refmesh_lexer_keywords {H : Type} : DataW H := .slice [.lit (.string [97, 99, 116, 111, 114]), .lit (.string [97, 110, 100]), .lit (.string [97, 116]), .lit (.string [98, 121]), .lit (.string [101, 108, 115, 101]), .lit (.string [103, 101, 116]), .lit (.string [105, 102]), .lit (.string [108, 101, 116]), .lit (.string [109, 111, 118, 101]), .lit (.string [110, 101, 119]), .lit (.string [110, 105, 108]), .lit (.string [110, 111, 116]), .lit (.string [111, 110]), .lit (.string [111, 114]), .lit (.string [112, 114, 105, 110, 116]), .lit (.string [114, 101, 99, 111, 114, 100]), .lit (.string [114, 101, 116, 117, 114, 110]), .lit (.string [115, 101, 110, 100]), .lit (.string [116, 104, 105, 115]), .lit (.string [116, 111]), .lit (.string [118, 97, 114]), .lit (.string [119, 97, 116, 99, 104]), .lit (.string [119, 101, 97, 107]), .lit (.string [119, 104, 105, 108, 101])] []
def laid_refmesh_lexer_symbols {H : Type} : DataW H := .slice [.lit (.string [33, 61]), .lit (.string [37]), .lit (.string [40]), .lit (.string [41]), .lit (.string [42]), .lit (.string [43]), .lit (.string [44]), .lit (.string [45]), .lit (.string [46]), .lit (.string [47]), .lit (.string [59]), .lit (.string [60]), .lit (.string [60, 61]), .lit (.string [61]), .lit (.string [61, 61]), .lit (.string [62]), .lit (.string [62, 61]), .lit (.string [123]), .lit (.string [125])] []
/-- One of Go's own tables, pinned by name: the form's constant. -/
def laid_unicode_utf8_first : DataW Unit := Go.Pinned.utf8First
def laid_refmesh_syntax_operators {H : Type} : DataW H := .agg [.agg [.lit (.string [43]), .lit (.int .i64 5)], .agg [.lit (.string [45]), .lit (.int .i64 5)], .agg [.lit (.string [42]), .lit (.int .i64 6)], .agg [.lit (.string [47]), .lit (.int .i64 6)], .agg [.lit (.string [37]), .lit (.int .i64 6)], .agg [.lit (.string [61, 61]), .lit (.int .i64 4)], .agg [.lit (.string [33, 61]), .lit (.int .i64 4)], .agg [.lit (.string [60]), .lit (.int .i64 4)], .agg [.lit (.string [60, 61]), .lit (.int .i64 4)], .agg [.lit (.string [62]), .lit (.int .i64 4)], .agg [.lit (.string [62, 61]), .lit (.int .i64 4)], .agg [.lit (.string [97, 110, 100]), .lit (.int .i64 2)], .agg [.lit (.string [111, 114]), .lit (.int .i64 1)]]
def laid_refmesh_syntax_forms {H : Type} : DataW H := .agg [.agg [.lit (.int .i64 1), .lit (.int .i64 1), .lit (.bool true), .lit (.bool false), .lit (.bool false)], .agg [.lit (.int .i64 1), .lit (.int .i64 1), .lit (.bool true), .lit (.bool false), .lit (.bool false)], .agg [.lit (.int .i64 2), .lit (.int .i64 2), .lit (.bool true), .lit (.bool false), .lit (.bool false)], .agg [.lit (.int .i64 1), .lit (.int .i64 1), .lit (.bool false), .lit (.bool true), .lit (.bool true)], .agg [.lit (.int .i64 1), .lit (.int .i64 1), .lit (.bool false), .lit (.bool true), .lit (.bool false)], .agg [.lit (.int .i64 1), .lit (.int .i64 4611686018427387904), .lit (.bool true), .lit (.bool false), .lit (.bool false)], .agg [.lit (.int .i64 1), .lit (.int .i64 1), .lit (.bool false), .lit (.bool false), .lit (.bool false)], .agg [.lit (.int .i64 2), .lit (.int .i64 2), .lit (.bool false), .lit (.bool false), .lit (.bool false)], .agg [.lit (.int .i64 2), .lit (.int .i64 2), .lit (.bool true), .lit (.bool false), .lit (.bool false)], .agg [.lit (.int .i64 0), .lit (.int .i64 0), .lit (.bool false), .lit (.bool false), .lit (.bool false)]]

/-- 'refmeshlaw39.ParserPrograms': WHATEVER THE INPUT: true; the input reads as it did. -/
def parserProgramsSpec : ChangeSpec := { name := "parserPrograms", fn := fun _ => fun
  | [d] => { results := [.lit (.bool true)], args := [d] }
  | _ => none }
def parserProgramsRow : OpenClaim := { program := "ytdckddkalgnlpaagreatdoor", sum := "a545e113bb2543b6b3ee868fa039413008350c66f27d9b28ae743bbc1a58694c", func := "refmesh/refmeshlaw39.ParserPrograms", spec := "parserPrograms", inPlace := ["internal/bytealg.IndexByteString", "internal/bytealg.IndexString"], unfollowed := true, recurses := true, named := ["unicode/utf8.first", "unicode/utf8.acceptRanges", "strconv.ErrSyntax", "strconv.ErrRange", "internal/strconv.uint64pow10", "math/bits.deBruijn32tab", "math/bits.deBruijn64tab", "refmesh/lexer.keywords", "internal/bytealg.MaxLen", "refmesh/lexer.symbols"], apart := false, laid := [("math/bits.deBruijn32tab", laid_math_bits_deBruijn32tab), ("math/bits.deBruijn64tab", laid_math_bits_deBruijn64tab), ("internal/strconv.uint64pow10", laid_internal_strconv_uint64pow10), ("unicode/utf8.acceptRanges", laid_unicode_utf8_acceptRanges), ("strconv.ErrRange", laid_strconv_ErrRange), ("strconv.ErrSyntax", laid_strconv_ErrSyntax), ("refmesh/lexer.keywords", laid_refmesh_lexer_keywords), ("refmesh/lexer.symbols", laid_refmesh_lexer_symbols), ("unicode/utf8.first", laid_unicode_utf8_first)] }
def ParserProgramsSaid : Prop := parserProgramsRow.holds Tryz.pinned (OpenSpec.ofChange parserProgramsSpec)

/-- ITS FALSE NEIGHBOUR: 'it returns false'. Refute it at one input. -/
def parserProgramsWrong : ChangeSpec := { name := "parserPrograms", fn := fun _ => fun
  | [d] => { results := [.lit (.bool false)], args := [d] }
  | _ => none }
def ParserProgramsWrongFalsely : Prop := parserProgramsRow.holds Tryz.pinned (OpenSpec.ofChange parserProgramsWrong)

/-- 'refmeshlaw39.ParserExprs': WHATEVER THE INPUT: true; the input reads as it did. -/
def parserExprsSpec : ChangeSpec := { name := "parserExprs", fn := fun _ => fun
  | [d] => { results := [.lit (.bool true)], args := [d] }
  | _ => none }
def parserExprsRow : OpenClaim := { program := "ytdckddkalgnlpaagreatdoor", sum := "a545e113bb2543b6b3ee868fa039413008350c66f27d9b28ae743bbc1a58694c", func := "refmesh/refmeshlaw39.ParserExprs", spec := "parserExprs", inPlace := ["internal/bytealg.IndexByteString", "internal/bytealg.IndexString"], unfollowed := true, recurses := true, named := ["unicode/utf8.first", "unicode/utf8.acceptRanges", "strconv.ErrSyntax", "strconv.ErrRange", "internal/strconv.uint64pow10", "math/bits.deBruijn32tab", "math/bits.deBruijn64tab", "refmesh/lexer.keywords", "internal/bytealg.MaxLen", "refmesh/lexer.symbols"], apart := false, laid := [("math/bits.deBruijn32tab", laid_math_bits_deBruijn32tab), ("math/bits.deBruijn64tab", laid_math_bits_deBruijn64tab), ("internal/strconv.uint64pow10", laid_internal_strconv_uint64pow10), ("unicode/utf8.acceptRanges", laid_unicode_utf8_acceptRanges), ("strconv.ErrRange", laid_strconv_ErrRange), ("strconv.ErrSyntax", laid_strconv_ErrSyntax), ("refmesh/lexer.keywords", laid_refmesh_lexer_keywords), ("refmesh/lexer.symbols", laid_refmesh_lexer_symbols), ("unicode/utf8.first", laid_unicode_utf8_first)] }
def ParserExprsSaid : Prop := parserExprsRow.holds Tryz.pinned (OpenSpec.ofChange parserExprsSpec)

/-- ITS FALSE NEIGHBOUR: 'it returns false'. Refute it at one input. -/
def parserExprsWrong : ChangeSpec := { name := "parserExprs", fn := fun _ => fun
  | [d] => { results := [.lit (.bool false)], args := [d] }
  | _ => none }
def ParserExprsWrongFalsely : Prop := parserExprsRow.holds Tryz.pinned (OpenSpec.ofChange parserExprsWrong)

/-- 'refmeshlaw39.ParserOffsets': WHATEVER THE INPUT: true; the input reads as it did. -/
def parserOffsetsSpec : ChangeSpec := { name := "parserOffsets", fn := fun _ => fun
  | [d] => { results := [.lit (.bool true)], args := [d] }
  | _ => none }
def parserOffsetsRow : OpenClaim := { program := "ytdckddkalgnlpaagreatdoor", sum := "a545e113bb2543b6b3ee868fa039413008350c66f27d9b28ae743bbc1a58694c", func := "refmesh/refmeshlaw39.ParserOffsets", spec := "parserOffsets", inPlace := ["internal/bytealg.IndexByteString", "internal/bytealg.IndexString"], unfollowed := true, recurses := true, named := ["unicode/utf8.first", "unicode/utf8.acceptRanges", "strconv.ErrSyntax", "strconv.ErrRange", "internal/strconv.uint64pow10", "math/bits.deBruijn32tab", "math/bits.deBruijn64tab", "refmesh/lexer.keywords", "internal/bytealg.MaxLen", "refmesh/lexer.symbols"], apart := false, laid := [("math/bits.deBruijn32tab", laid_math_bits_deBruijn32tab), ("math/bits.deBruijn64tab", laid_math_bits_deBruijn64tab), ("internal/strconv.uint64pow10", laid_internal_strconv_uint64pow10), ("unicode/utf8.acceptRanges", laid_unicode_utf8_acceptRanges), ("strconv.ErrRange", laid_strconv_ErrRange), ("strconv.ErrSyntax", laid_strconv_ErrSyntax), ("refmesh/lexer.keywords", laid_refmesh_lexer_keywords), ("refmesh/lexer.symbols", laid_refmesh_lexer_symbols), ("unicode/utf8.first", laid_unicode_utf8_first)] }
def ParserOffsetsSaid : Prop := parserOffsetsRow.holds Tryz.pinned (OpenSpec.ofChange parserOffsetsSpec)

/-- ITS FALSE NEIGHBOUR: 'it returns false'. Refute it at one input. -/
def parserOffsetsWrong : ChangeSpec := { name := "parserOffsets", fn := fun _ => fun
  | [d] => { results := [.lit (.bool false)], args := [d] }
  | _ => none }
def ParserOffsetsWrongFalsely : Prop := parserOffsetsRow.holds Tryz.pinned (OpenSpec.ofChange parserOffsetsWrong)

/-- 'refmeshlaw39.ParserJoins': WHATEVER THE INPUT: true; the input reads as it did. -/
def parserJoinsSpec : ChangeSpec := { name := "parserJoins", fn := fun _ => fun
  | [d1, d2] => { results := [.lit (.bool true)], args := [d1, d2] }
  | _ => none }
def parserJoinsRow : OpenClaim := { program := "ytdckddkalgnlpaagreatdoor", sum := "a545e113bb2543b6b3ee868fa039413008350c66f27d9b28ae743bbc1a58694c", func := "refmesh/refmeshlaw39.ParserJoins", spec := "parserJoins", inPlace := ["internal/bytealg.IndexByteString", "internal/bytealg.IndexString"], unfollowed := true, recurses := true, named := ["unicode/utf8.first", "unicode/utf8.acceptRanges", "strconv.ErrSyntax", "strconv.ErrRange", "internal/strconv.uint64pow10", "math/bits.deBruijn32tab", "math/bits.deBruijn64tab", "refmesh/lexer.keywords", "internal/bytealg.MaxLen", "refmesh/lexer.symbols"], apart := false, laid := [("math/bits.deBruijn32tab", laid_math_bits_deBruijn32tab), ("math/bits.deBruijn64tab", laid_math_bits_deBruijn64tab), ("internal/strconv.uint64pow10", laid_internal_strconv_uint64pow10), ("unicode/utf8.acceptRanges", laid_unicode_utf8_acceptRanges), ("strconv.ErrRange", laid_strconv_ErrRange), ("strconv.ErrSyntax", laid_strconv_ErrSyntax), ("refmesh/lexer.keywords", laid_refmesh_lexer_keywords), ("refmesh/lexer.symbols", laid_refmesh_lexer_symbols), ("unicode/utf8.first", laid_unicode_utf8_first)] }
def ParserJoinsSaid : Prop := parserJoinsRow.holds Tryz.pinned (OpenSpec.ofChange parserJoinsSpec)

/-- ITS FALSE NEIGHBOUR: 'it returns false'. Refute it at one input. -/
def parserJoinsWrong : ChangeSpec := { name := "parserJoins", fn := fun _ => fun
  | [d1, d2] => { results := [.lit (.bool false)], args := [d1, d2] }
  | _ => none }
def ParserJoinsWrongFalsely : Prop := parserJoinsRow.holds Tryz.pinned (OpenSpec.ofChange parserJoinsWrong)

/-- 'refmeshlaw39.ParserSpaces': WHATEVER THE INPUT: true; the input reads as it did. -/
def parserSpacesSpec : ChangeSpec := { name := "parserSpaces", fn := fun _ => fun
  | [d] => { results := [.lit (.bool true)], args := [d] }
  | _ => none }
def parserSpacesRow : OpenClaim := { program := "ytdckddkalgnlpaagreatdoor", sum := "a545e113bb2543b6b3ee868fa039413008350c66f27d9b28ae743bbc1a58694c", func := "refmesh/refmeshlaw39.ParserSpaces", spec := "parserSpaces", inPlace := ["internal/bytealg.IndexByteString", "internal/bytealg.IndexString", "internal/abi.NoEscape", "internal/bytealg.MakeNoZero"], unfollowed := true, recurses := true, named := ["unicode/utf8.first", "unicode/utf8.acceptRanges", "strconv.ErrSyntax", "strconv.ErrRange", "internal/strconv.uint64pow10", "math/bits.deBruijn32tab", "math/bits.deBruijn64tab", "refmesh/lexer.keywords", "internal/bytealg.MaxLen", "refmesh/lexer.symbols"], apart := false, laid := [("math/bits.deBruijn32tab", laid_math_bits_deBruijn32tab), ("math/bits.deBruijn64tab", laid_math_bits_deBruijn64tab), ("internal/strconv.uint64pow10", laid_internal_strconv_uint64pow10), ("unicode/utf8.acceptRanges", laid_unicode_utf8_acceptRanges), ("strconv.ErrRange", laid_strconv_ErrRange), ("strconv.ErrSyntax", laid_strconv_ErrSyntax), ("refmesh/lexer.keywords", laid_refmesh_lexer_keywords), ("refmesh/lexer.symbols", laid_refmesh_lexer_symbols), ("unicode/utf8.first", laid_unicode_utf8_first)] }
def ParserSpacesSaid : Prop := parserSpacesRow.holds Tryz.pinned (OpenSpec.ofChange parserSpacesSpec)

/-- ITS FALSE NEIGHBOUR: 'it returns false'. Refute it at one input. -/
def parserSpacesWrong : ChangeSpec := { name := "parserSpaces", fn := fun _ => fun
  | [d] => { results := [.lit (.bool false)], args := [d] }
  | _ => none }
def ParserSpacesWrongFalsely : Prop := parserSpacesRow.holds Tryz.pinned (OpenSpec.ofChange parserSpacesWrong)

/-- 'refmeshlaw39.ParserValid': WHATEVER THE INPUT: true; the input reads as it did. -/
def parserValidSpec : ChangeSpec := { name := "parserValid", fn := fun _ => fun
  | [d] => { results := [.lit (.bool true)], args := [d] }
  | _ => none }
def parserValidRow : OpenClaim := { program := "ytdckddkalgnlpaagreatdoor", sum := "a545e113bb2543b6b3ee868fa039413008350c66f27d9b28ae743bbc1a58694c", func := "refmesh/refmeshlaw39.ParserValid", spec := "parserValid", inPlace := ["internal/bytealg.IndexByteString", "internal/bytealg.IndexString", "internal/abi.NoEscape", "internal/bytealg.MakeNoZero"], unfollowed := true, recurses := true, named := ["unicode/utf8.first", "unicode/utf8.acceptRanges", "strconv.ErrSyntax", "strconv.ErrRange", "internal/strconv.uint64pow10", "math/bits.deBruijn32tab", "math/bits.deBruijn64tab", "refmesh/lexer.keywords", "internal/bytealg.MaxLen", "refmesh/lexer.symbols", "refmesh/syntax.operators", "refmesh/syntax.forms"], apart := false, laid := [("math/bits.deBruijn32tab", laid_math_bits_deBruijn32tab), ("math/bits.deBruijn64tab", laid_math_bits_deBruijn64tab), ("internal/strconv.uint64pow10", laid_internal_strconv_uint64pow10), ("unicode/utf8.acceptRanges", laid_unicode_utf8_acceptRanges), ("strconv.ErrRange", laid_strconv_ErrRange), ("strconv.ErrSyntax", laid_strconv_ErrSyntax), ("refmesh/lexer.keywords", laid_refmesh_lexer_keywords), ("refmesh/lexer.symbols", laid_refmesh_lexer_symbols), ("refmesh/syntax.operators", laid_refmesh_syntax_operators), ("refmesh/syntax.forms", laid_refmesh_syntax_forms), ("unicode/utf8.first", laid_unicode_utf8_first)] }
def ParserValidSaid : Prop := parserValidRow.holds Tryz.pinned (OpenSpec.ofChange parserValidSpec)

/-- ITS FALSE NEIGHBOUR: 'it returns false'. Refute it at one input. -/
def parserValidWrong : ChangeSpec := { name := "parserValid", fn := fun _ => fun
  | [d] => { results := [.lit (.bool false)], args := [d] }
  | _ => none }
def ParserValidWrongFalsely : Prop := parserValidRow.holds Tryz.pinned (OpenSpec.ofChange parserValidWrong)

/- THE SECOND FORM. 'bulk': how many values and letters a reading holds, each counted each time it is reached (what is shared counts as often as it is met; a slice's spare places count too). A statement '..UptoSaid' is the law's where the arguments, and the package variables that the reading takes, are together of bulk at most 1048576: NARROWER than '..Said'. Prove '..Said' where nothing that the law and all that it calls make is longer than what came in: it says more and counts as full. Else prove '..UptoSaid'. A law counts once. -/
mutual
def uptoBulk {H : Type} : DataW H → Nat
  | .lit (.string bytes) => bytes.length + 1
  | .lit _ => 1
  | .nil => 1
  | .ptr d => uptoBulk d + 1
  | .slice elems spare => uptoBulkAll elems + uptoBulkAll spare + 1
  | .agg parts => uptoBulkAll parts + 1
  | .iface _ d => uptoBulk d + 1
  | .map entries => uptoBulkEntries entries + 1
  | .held _ => 1
def uptoBulkAll {H : Type} : List (DataW H) → Nat
  | [] => 0
  | d :: r => uptoBulk d + uptoBulkAll r
def uptoBulkEntries {H : Type} : List (Lit × DataW H) → Nat
  | [] => 0
  | x :: r => uptoBulkEntry x + uptoBulkEntries r
def uptoBulkEntry {H : Type} : Lit × DataW H → Nat
  | (.string bytes, d) => bytes.length + uptoBulk d + 1
  | (_, d) => uptoBulk d + 1
 end
def uptoSmall : (H : Type) → List (DataW H) → Bool := fun _ ds => decide (uptoBulkAll ds ≤ 1048576)
def OpenSpec.upto (s : _root_.Go.ChangeSpec) : _root_.Go.OpenSpec := { _root_.Go.OpenSpec.ofChange s with cond := some uptoSmall }

/-- 'refmeshlaw39.ParserPrograms', WHERE WHAT IT READS IS OF BULK AT MOST 1048576: true; the input reads as it did. -/
def parserProgramsUptoRow : OpenClaim := { program := "ytdckddkalgnlpaagreatdoor", sum := "a545e113bb2543b6b3ee868fa039413008350c66f27d9b28ae743bbc1a58694c", func := "refmesh/refmeshlaw39.ParserPrograms", spec := "parserPrograms", inPlace := ["internal/bytealg.IndexByteString", "internal/bytealg.IndexString"], unfollowed := true, recurses := true, named := ["unicode/utf8.first", "unicode/utf8.acceptRanges", "strconv.ErrSyntax", "strconv.ErrRange", "internal/strconv.uint64pow10", "math/bits.deBruijn32tab", "math/bits.deBruijn64tab", "refmesh/lexer.keywords", "internal/bytealg.MaxLen", "refmesh/lexer.symbols"], apart := false, laid := [("math/bits.deBruijn32tab", laid_math_bits_deBruijn32tab), ("math/bits.deBruijn64tab", laid_math_bits_deBruijn64tab), ("internal/strconv.uint64pow10", laid_internal_strconv_uint64pow10), ("unicode/utf8.acceptRanges", laid_unicode_utf8_acceptRanges), ("strconv.ErrRange", laid_strconv_ErrRange), ("strconv.ErrSyntax", laid_strconv_ErrSyntax), ("refmesh/lexer.keywords", laid_refmesh_lexer_keywords), ("refmesh/lexer.symbols", laid_refmesh_lexer_symbols), ("unicode/utf8.first", laid_unicode_utf8_first)], narrowed := true }
def ParserProgramsUptoSaid : Prop := parserProgramsUptoRow.holds Tryz.pinned (OpenSpec.upto parserProgramsSpec)

/-- 'refmeshlaw39.ParserExprs', WHERE WHAT IT READS IS OF BULK AT MOST 1048576: true; the input reads as it did. -/
def parserExprsUptoRow : OpenClaim := { program := "ytdckddkalgnlpaagreatdoor", sum := "a545e113bb2543b6b3ee868fa039413008350c66f27d9b28ae743bbc1a58694c", func := "refmesh/refmeshlaw39.ParserExprs", spec := "parserExprs", inPlace := ["internal/bytealg.IndexByteString", "internal/bytealg.IndexString"], unfollowed := true, recurses := true, named := ["unicode/utf8.first", "unicode/utf8.acceptRanges", "strconv.ErrSyntax", "strconv.ErrRange", "internal/strconv.uint64pow10", "math/bits.deBruijn32tab", "math/bits.deBruijn64tab", "refmesh/lexer.keywords", "internal/bytealg.MaxLen", "refmesh/lexer.symbols"], apart := false, laid := [("math/bits.deBruijn32tab", laid_math_bits_deBruijn32tab), ("math/bits.deBruijn64tab", laid_math_bits_deBruijn64tab), ("internal/strconv.uint64pow10", laid_internal_strconv_uint64pow10), ("unicode/utf8.acceptRanges", laid_unicode_utf8_acceptRanges), ("strconv.ErrRange", laid_strconv_ErrRange), ("strconv.ErrSyntax", laid_strconv_ErrSyntax), ("refmesh/lexer.keywords", laid_refmesh_lexer_keywords), ("refmesh/lexer.symbols", laid_refmesh_lexer_symbols), ("unicode/utf8.first", laid_unicode_utf8_first)], narrowed := true }
def ParserExprsUptoSaid : Prop := parserExprsUptoRow.holds Tryz.pinned (OpenSpec.upto parserExprsSpec)

/-- 'refmeshlaw39.ParserOffsets', WHERE WHAT IT READS IS OF BULK AT MOST 1048576: true; the input reads as it did. -/
def parserOffsetsUptoRow : OpenClaim := { program := "ytdckddkalgnlpaagreatdoor", sum := "a545e113bb2543b6b3ee868fa039413008350c66f27d9b28ae743bbc1a58694c", func := "refmesh/refmeshlaw39.ParserOffsets", spec := "parserOffsets", inPlace := ["internal/bytealg.IndexByteString", "internal/bytealg.IndexString"], unfollowed := true, recurses := true, named := ["unicode/utf8.first", "unicode/utf8.acceptRanges", "strconv.ErrSyntax", "strconv.ErrRange", "internal/strconv.uint64pow10", "math/bits.deBruijn32tab", "math/bits.deBruijn64tab", "refmesh/lexer.keywords", "internal/bytealg.MaxLen", "refmesh/lexer.symbols"], apart := false, laid := [("math/bits.deBruijn32tab", laid_math_bits_deBruijn32tab), ("math/bits.deBruijn64tab", laid_math_bits_deBruijn64tab), ("internal/strconv.uint64pow10", laid_internal_strconv_uint64pow10), ("unicode/utf8.acceptRanges", laid_unicode_utf8_acceptRanges), ("strconv.ErrRange", laid_strconv_ErrRange), ("strconv.ErrSyntax", laid_strconv_ErrSyntax), ("refmesh/lexer.keywords", laid_refmesh_lexer_keywords), ("refmesh/lexer.symbols", laid_refmesh_lexer_symbols), ("unicode/utf8.first", laid_unicode_utf8_first)], narrowed := true }
def ParserOffsetsUptoSaid : Prop := parserOffsetsUptoRow.holds Tryz.pinned (OpenSpec.upto parserOffsetsSpec)

/-- 'refmeshlaw39.ParserJoins', WHERE WHAT IT READS IS OF BULK AT MOST 1048576: true; the input reads as it did. -/
def parserJoinsUptoRow : OpenClaim := { program := "ytdckddkalgnlpaagreatdoor", sum := "a545e113bb2543b6b3ee868fa039413008350c66f27d9b28ae743bbc1a58694c", func := "refmesh/refmeshlaw39.ParserJoins", spec := "parserJoins", inPlace := ["internal/bytealg.IndexByteString", "internal/bytealg.IndexString"], unfollowed := true, recurses := true, named := ["unicode/utf8.first", "unicode/utf8.acceptRanges", "strconv.ErrSyntax", "strconv.ErrRange", "internal/strconv.uint64pow10", "math/bits.deBruijn32tab", "math/bits.deBruijn64tab", "refmesh/lexer.keywords", "internal/bytealg.MaxLen", "refmesh/lexer.symbols"], apart := false, laid := [("math/bits.deBruijn32tab", laid_math_bits_deBruijn32tab), ("math/bits.deBruijn64tab", laid_math_bits_deBruijn64tab), ("internal/strconv.uint64pow10", laid_internal_strconv_uint64pow10), ("unicode/utf8.acceptRanges", laid_unicode_utf8_acceptRanges), ("strconv.ErrRange", laid_strconv_ErrRange), ("strconv.ErrSyntax", laid_strconv_ErrSyntax), ("refmesh/lexer.keywords", laid_refmesh_lexer_keywords), ("refmesh/lexer.symbols", laid_refmesh_lexer_symbols), ("unicode/utf8.first", laid_unicode_utf8_first)], narrowed := true }
def ParserJoinsUptoSaid : Prop := parserJoinsUptoRow.holds Tryz.pinned (OpenSpec.upto parserJoinsSpec)

/-- 'refmeshlaw39.ParserSpaces', WHERE WHAT IT READS IS OF BULK AT MOST 1048576: true; the input reads as it did. -/
def parserSpacesUptoRow : OpenClaim := { program := "ytdckddkalgnlpaagreatdoor", sum := "a545e113bb2543b6b3ee868fa039413008350c66f27d9b28ae743bbc1a58694c", func := "refmesh/refmeshlaw39.ParserSpaces", spec := "parserSpaces", inPlace := ["internal/bytealg.IndexByteString", "internal/bytealg.IndexString", "internal/abi.NoEscape", "internal/bytealg.MakeNoZero"], unfollowed := true, recurses := true, named := ["unicode/utf8.first", "unicode/utf8.acceptRanges", "strconv.ErrSyntax", "strconv.ErrRange", "internal/strconv.uint64pow10", "math/bits.deBruijn32tab", "math/bits.deBruijn64tab", "refmesh/lexer.keywords", "internal/bytealg.MaxLen", "refmesh/lexer.symbols"], apart := false, laid := [("math/bits.deBruijn32tab", laid_math_bits_deBruijn32tab), ("math/bits.deBruijn64tab", laid_math_bits_deBruijn64tab), ("internal/strconv.uint64pow10", laid_internal_strconv_uint64pow10), ("unicode/utf8.acceptRanges", laid_unicode_utf8_acceptRanges), ("strconv.ErrRange", laid_strconv_ErrRange), ("strconv.ErrSyntax", laid_strconv_ErrSyntax), ("refmesh/lexer.keywords", laid_refmesh_lexer_keywords), ("refmesh/lexer.symbols", laid_refmesh_lexer_symbols), ("unicode/utf8.first", laid_unicode_utf8_first)], narrowed := true }
def ParserSpacesUptoSaid : Prop := parserSpacesUptoRow.holds Tryz.pinned (OpenSpec.upto parserSpacesSpec)

/-- 'refmeshlaw39.ParserValid', WHERE WHAT IT READS IS OF BULK AT MOST 1048576: true; the input reads as it did. -/
def parserValidUptoRow : OpenClaim := { program := "ytdckddkalgnlpaagreatdoor", sum := "a545e113bb2543b6b3ee868fa039413008350c66f27d9b28ae743bbc1a58694c", func := "refmesh/refmeshlaw39.ParserValid", spec := "parserValid", inPlace := ["internal/bytealg.IndexByteString", "internal/bytealg.IndexString", "internal/abi.NoEscape", "internal/bytealg.MakeNoZero"], unfollowed := true, recurses := true, named := ["unicode/utf8.first", "unicode/utf8.acceptRanges", "strconv.ErrSyntax", "strconv.ErrRange", "internal/strconv.uint64pow10", "math/bits.deBruijn32tab", "math/bits.deBruijn64tab", "refmesh/lexer.keywords", "internal/bytealg.MaxLen", "refmesh/lexer.symbols", "refmesh/syntax.operators", "refmesh/syntax.forms"], apart := false, laid := [("math/bits.deBruijn32tab", laid_math_bits_deBruijn32tab), ("math/bits.deBruijn64tab", laid_math_bits_deBruijn64tab), ("internal/strconv.uint64pow10", laid_internal_strconv_uint64pow10), ("unicode/utf8.acceptRanges", laid_unicode_utf8_acceptRanges), ("strconv.ErrRange", laid_strconv_ErrRange), ("strconv.ErrSyntax", laid_strconv_ErrSyntax), ("refmesh/lexer.keywords", laid_refmesh_lexer_keywords), ("refmesh/lexer.symbols", laid_refmesh_lexer_symbols), ("refmesh/syntax.operators", laid_refmesh_syntax_operators), ("refmesh/syntax.forms", laid_refmesh_syntax_forms), ("unicode/utf8.first", laid_unicode_utf8_first)], narrowed := true }
def ParserValidUptoSaid : Prop := parserValidUptoRow.holds Tryz.pinned (OpenSpec.upto parserValidSpec)

end Rows
end Go.Proofs.YtdckddkalgnlpaaGreatDoor
