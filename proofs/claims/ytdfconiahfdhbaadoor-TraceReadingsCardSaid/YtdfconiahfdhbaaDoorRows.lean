/-
  NARROWER THAN 'FOR EVERY INPUT', by the rows' own cells (each row's printed sentence says how): TraceFormats: laid · TraceParses: laid · TraceRoundTrips: laid · TraceKinds: laid · TraceAttempts: laid · TraceAttemptsCover: laid · TraceReadings: laid.
  DERIVED. THE GIVEN ROWS OF THIS SEAT. 7 by the template 'for every input the law returns true; each argument reads behind the call as it read before'; 0 by the template 'total and deterministic' (their statements: YtdfconiahfdhbaaDoorTotals.lean).
  GIVEN WITH THE SEED: the statements are not yours to turn. If you find one false, say at which input.
  Laid BY PROGRAM, IN A SANDBOX (cutbox-rows.mjs): the forced cells as the released guide's own fill.sh prints them over the translation b5f63c2048b88168… (all of the seat's roots in one cut). By AI agents, Wed Nov 11 2026. No macro, syntax, notation, axiom, sorry.
-/
import Derived.Test.YtdfconiahfdhbaaDoorChecked
import GoSem.PinnedTables
import GoSem.Claim
import GoSem.ClaimJoined
import GoSem.ClaimMapViews
import Derived.JoinedTies
import Derived.KernelRfl
namespace Go.Proofs.YtdfconiahfdhbaaDoor
/- THE CELL 'sum', in the pinned program and in every row, IS THE sha256 OF THE DUMP (.gsa) THAT YtdfconiahfdhbaaDoorProg.lean LOADS. Nothing in Lean hashes anything: it is a label: what it is worth is what the hold of that sum in a sandbox is worth. -/
noncomputable def Tryd.pinned : Pinned := { name := "ytdfconiahfdhbaadoor", sum := "b5f63c2048b881680217019665c002bca021d5397e4f3e1adf9e3d928b7e9e5c", checked := Tryd.checked }
namespace Rows
def none {H : Type} : Left H := { results := [], args := [] }

/- WHAT THE LISTED PACKAGE-LEVEL VARIABLES READ AS WHEN THE CALL BEGINS. Each datum BY PROGRAM (the guide's laid-datum.mjs) off the statement by which the dump's own 'gosem.cut.vars' lays the variable. In a bare row this is a premise. The card (YtdfconiahfdhbaaDoorCards.lean) ties it to the program's text. -/
def laid_math_bits_deBruijn32tab {H : Type} : DataW H := .agg [.lit (.int .u8 0), .lit (.int .u8 1), .lit (.int .u8 28), .lit (.int .u8 2), .lit (.int .u8 29), .lit (.int .u8 14), .lit (.int .u8 24), .lit (.int .u8 3), .lit (.int .u8 30), .lit (.int .u8 22), .lit (.int .u8 20), .lit (.int .u8 15), .lit (.int .u8 25), .lit (.int .u8 17), .lit (.int .u8 4), .lit (.int .u8 8), .lit (.int .u8 31), .lit (.int .u8 27), .lit (.int .u8 13), .lit (.int .u8 23), .lit (.int .u8 21), .lit (.int .u8 19), .lit (.int .u8 16), .lit (.int .u8 7), .lit (.int .u8 26), .lit (.int .u8 12), .lit (.int .u8 18), .lit (.int .u8 6), .lit (.int .u8 11), .lit (.int .u8 5), .lit (.int .u8 10), .lit (.int .u8 9)]
def laid_math_bits_deBruijn64tab {H : Type} : DataW H := .agg [.lit (.int .u8 0), .lit (.int .u8 1), .lit (.int .u8 56), .lit (.int .u8 2), .lit (.int .u8 57), .lit (.int .u8 49), .lit (.int .u8 28), .lit (.int .u8 3), .lit (.int .u8 61), .lit (.int .u8 58), .lit (.int .u8 42), .lit (.int .u8 50), .lit (.int .u8 38), .lit (.int .u8 29), .lit (.int .u8 17), .lit (.int .u8 4), .lit (.int .u8 62), .lit (.int .u8 47), .lit (.int .u8 59), .lit (.int .u8 36), .lit (.int .u8 45), .lit (.int .u8 43), .lit (.int .u8 51), .lit (.int .u8 22), .lit (.int .u8 53), .lit (.int .u8 39), .lit (.int .u8 33), .lit (.int .u8 30), .lit (.int .u8 24), .lit (.int .u8 18), .lit (.int .u8 12), .lit (.int .u8 5), .lit (.int .u8 63), .lit (.int .u8 55), .lit (.int .u8 48), .lit (.int .u8 27), .lit (.int .u8 60), .lit (.int .u8 41), .lit (.int .u8 37), .lit (.int .u8 16), .lit (.int .u8 46), .lit (.int .u8 35), .lit (.int .u8 44), .lit (.int .u8 21), .lit (.int .u8 52), .lit (.int .u8 32), .lit (.int .u8 23), .lit (.int .u8 11), .lit (.int .u8 54), .lit (.int .u8 26), .lit (.int .u8 40), .lit (.int .u8 15), .lit (.int .u8 34), .lit (.int .u8 20), .lit (.int .u8 31), .lit (.int .u8 10), .lit (.int .u8 25), .lit (.int .u8 14), .lit (.int .u8 19), .lit (.int .u8 9), .lit (.int .u8 13), .lit (.int .u8 8), .lit (.int .u8 7), .lit (.int .u8 6)]
def laid_internal_strconv_uint64pow10 {H : Type} : DataW H := .agg [.lit (.int .u64 1), .lit (.int .u64 10), .lit (.int .u64 100), .lit (.int .u64 1000), .lit (.int .u64 10000), .lit (.int .u64 100000), .lit (.int .u64 1000000), .lit (.int .u64 10000000), .lit (.int .u64 100000000), .lit (.int .u64 1000000000), .lit (.int .u64 10000000000), .lit (.int .u64 100000000000), .lit (.int .u64 1000000000000), .lit (.int .u64 10000000000000), .lit (.int .u64 100000000000000), .lit (.int .u64 1000000000000000), .lit (.int .u64 10000000000000000), .lit (.int .u64 100000000000000000), .lit (.int .u64 1000000000000000000), .lit (.int .u64 10000000000000000000)]
def laid_unicode_utf8_acceptRanges {H : Type} : DataW H := .agg [.agg [.lit (.int .u8 128), .lit (.int .u8 191)], .agg [.lit (.int .u8 160), .lit (.int .u8 191)], .agg [.lit (.int .u8 128), .lit (.int .u8 159)], .agg [.lit (.int .u8 144), .lit (.int .u8 191)], .agg [.lit (.int .u8 128), .lit (.int .u8 143)], .agg [.lit (.int .u8 0), .lit (.int .u8 0)], .agg [.lit (.int .u8 0), .lit (.int .u8 0)], .agg [.lit (.int .u8 0), .lit (.int .u8 0)], .agg [.lit (.int .u8 0), .lit (.int .u8 0)], .agg [.lit (.int .u8 0), .lit (.int .u8 0)], .agg [.lit (.int .u8 0), .lit (.int .u8 0)], .agg [.lit (.int .u8 0), .lit (.int .u8 0)], .agg [.lit (.int .u8 0), .lit (.int .u8 0)], .agg [.lit (.int .u8 0), .lit (.int .u8 0)], .agg [.lit (.int .u8 0), .lit (.int .u8 0)], .agg [.lit (.int .u8 0), .lit (.int .u8 0)]]
def laid_strconv_ErrRange {H : Type} : DataW H := .iface "*errors.errorString" (.ptr (.agg [.lit (.string [118, 97, 108, 117, 101, 32, 111, 117, 116, 32, 111, 102, 32, 114, 97, 110, 103, 101])]))
def laid_strconv_ErrSyntax {H : Type} : DataW H := .iface "*errors.errorString" (.ptr (.agg [.lit (.string [105, 110, 118, 97, 108, 105, 100, 32, 115, 121, 110, 116, 97, 120])]))
def laid_trickle_trace_kinds {H : Type} : DataW H := .agg [.agg [.lit (.string []), .nil], .agg [.lit (.string [98, 111, 111, 116]), .slice [.lit (.int .i64 2)] []], .agg [.lit (.string [102, 97, 105, 108]), .slice [.lit (.int .i64 2)] []], .agg [.lit (.string [115, 116, 97, 114, 116]), .slice [.lit (.int .i64 0), .lit (.int .i64 4)] []], .agg [.lit (.string [114, 101, 97, 100]), .slice [.lit (.int .i64 0), .lit (.int .i64 1), .lit (.int .i64 4)] []], .agg [.lit (.string [99, 111, 109, 109, 105, 116]), .slice [.lit (.int .i64 0), .lit (.int .i64 3)] []], .agg [.lit (.string [101, 110, 100]), .slice [.lit (.int .i64 0)] []], .agg [.lit (.string [111, 117, 116, 112, 117, 116]), .slice [.lit (.int .i64 1), .lit (.int .i64 2), .lit (.int .i64 4)] []], .agg [.lit (.string [114, 101, 99, 101, 105, 118, 101]), .slice [.lit (.int .i64 2), .lit (.int .i64 4)] []], .agg [.lit (.string [101, 120, 112, 105, 114, 101]), .slice [.lit (.int .i64 0), .lit (.int .i64 4)] []], .agg [.lit (.string [117, 112, 100, 97, 116, 101]), .slice [.lit (.int .i64 2)] []], .agg [.lit (.string [100, 114, 111, 112]), .slice [.lit (.int .i64 0), .lit (.int .i64 1), .lit (.int .i64 4), .lit (.int .i64 2)] []], .agg [.lit (.string [115, 101, 110, 100]), .slice [.lit (.int .i64 0), .lit (.int .i64 1), .lit (.int .i64 4), .lit (.int .i64 2)] []]]
/-- One of Go's own tables, pinned by name: the form's constant. -/
def laid_unicode_utf8_first : DataW Unit := Go.Pinned.utf8First

/-- 'tricklelaw52.TraceFormats': WHATEVER THE INPUT: true; the input reads as it did. -/
def traceFormatsSpec : ChangeSpec := { name := "traceFormats", fn := fun _ => fun
  | [d] => { results := [.lit (.bool true)], args := [d] }
  | _ => none }
def traceFormatsRow : OpenClaim := { program := "ytdfconiahfdhbaadoor", sum := "b5f63c2048b881680217019665c002bca021d5397e4f3e1adf9e3d928b7e9e5c", func := "trickle/tricklelaw52.TraceFormats", spec := "traceFormats", inPlace := ["internal/bytealg.IndexByteString", "internal/bytealg.IndexString", "internal/bytealg.CountString", "internal/abi.NoEscape"], unfollowed := true, recurses := true, named := ["unicode/utf8.first", "unicode/utf8.acceptRanges", "internal/bytealg.MaxLen", "trickle/trace.kinds", "strconv.ErrSyntax", "strconv.ErrRange", "internal/strconv.uint64pow10", "math/bits.deBruijn32tab", "math/bits.deBruijn64tab"], apart := false, laid := [("math/bits.deBruijn32tab", laid_math_bits_deBruijn32tab), ("math/bits.deBruijn64tab", laid_math_bits_deBruijn64tab), ("internal/strconv.uint64pow10", laid_internal_strconv_uint64pow10), ("unicode/utf8.acceptRanges", laid_unicode_utf8_acceptRanges), ("strconv.ErrRange", laid_strconv_ErrRange), ("strconv.ErrSyntax", laid_strconv_ErrSyntax), ("trickle/trace.kinds", laid_trickle_trace_kinds), ("unicode/utf8.first", laid_unicode_utf8_first)] }
def TraceFormatsSaid : Prop := traceFormatsRow.holds Tryd.pinned (OpenSpec.ofChange traceFormatsSpec)

/-- ITS FALSE NEIGHBOUR: 'it returns false'. Refute it at one input. -/
def traceFormatsWrong : ChangeSpec := { name := "traceFormats", fn := fun _ => fun
  | [d] => { results := [.lit (.bool false)], args := [d] }
  | _ => none }
def TraceFormatsWrongFalsely : Prop := traceFormatsRow.holds Tryd.pinned (OpenSpec.ofChange traceFormatsWrong)

/-- 'tricklelaw52.TraceParses': WHATEVER THE INPUT: true; the input reads as it did. -/
def traceParsesSpec : ChangeSpec := { name := "traceParses", fn := fun _ => fun
  | [d] => { results := [.lit (.bool true)], args := [d] }
  | _ => none }
def traceParsesRow : OpenClaim := { program := "ytdfconiahfdhbaadoor", sum := "b5f63c2048b881680217019665c002bca021d5397e4f3e1adf9e3d928b7e9e5c", func := "trickle/tricklelaw52.TraceParses", spec := "traceParses", inPlace := ["internal/bytealg.IndexByteString", "internal/bytealg.IndexString", "internal/bytealg.CountString", "internal/abi.NoEscape"], unfollowed := true, recurses := true, named := ["unicode/utf8.first", "unicode/utf8.acceptRanges", "internal/bytealg.MaxLen", "trickle/trace.kinds", "strconv.ErrSyntax", "strconv.ErrRange", "internal/strconv.uint64pow10", "math/bits.deBruijn32tab", "math/bits.deBruijn64tab"], apart := false, laid := [("math/bits.deBruijn32tab", laid_math_bits_deBruijn32tab), ("math/bits.deBruijn64tab", laid_math_bits_deBruijn64tab), ("internal/strconv.uint64pow10", laid_internal_strconv_uint64pow10), ("unicode/utf8.acceptRanges", laid_unicode_utf8_acceptRanges), ("strconv.ErrRange", laid_strconv_ErrRange), ("strconv.ErrSyntax", laid_strconv_ErrSyntax), ("trickle/trace.kinds", laid_trickle_trace_kinds), ("unicode/utf8.first", laid_unicode_utf8_first)] }
def TraceParsesSaid : Prop := traceParsesRow.holds Tryd.pinned (OpenSpec.ofChange traceParsesSpec)

/-- ITS FALSE NEIGHBOUR: 'it returns false'. Refute it at one input. -/
def traceParsesWrong : ChangeSpec := { name := "traceParses", fn := fun _ => fun
  | [d] => { results := [.lit (.bool false)], args := [d] }
  | _ => none }
def TraceParsesWrongFalsely : Prop := traceParsesRow.holds Tryd.pinned (OpenSpec.ofChange traceParsesWrong)

/-- 'tricklelaw52.TraceRoundTrips': WHATEVER THE INPUT: true; the input reads as it did. -/
def traceRoundTripsSpec : ChangeSpec := { name := "traceRoundTrips", fn := fun _ => fun
  | [d1, d2] => { results := [.lit (.bool true)], args := [d1, d2] }
  | _ => none }
def traceRoundTripsRow : OpenClaim := { program := "ytdfconiahfdhbaadoor", sum := "b5f63c2048b881680217019665c002bca021d5397e4f3e1adf9e3d928b7e9e5c", func := "trickle/tricklelaw52.TraceRoundTrips", spec := "traceRoundTrips", inPlace := ["internal/bytealg.IndexByteString", "internal/bytealg.IndexString", "internal/bytealg.CountString", "internal/abi.NoEscape"], unfollowed := true, recurses := true, named := ["unicode/utf8.first", "unicode/utf8.acceptRanges", "internal/bytealg.MaxLen", "trickle/trace.kinds", "strconv.ErrSyntax", "strconv.ErrRange", "internal/strconv.uint64pow10", "math/bits.deBruijn32tab", "math/bits.deBruijn64tab"], apart := false, laid := [("math/bits.deBruijn32tab", laid_math_bits_deBruijn32tab), ("math/bits.deBruijn64tab", laid_math_bits_deBruijn64tab), ("internal/strconv.uint64pow10", laid_internal_strconv_uint64pow10), ("unicode/utf8.acceptRanges", laid_unicode_utf8_acceptRanges), ("strconv.ErrRange", laid_strconv_ErrRange), ("strconv.ErrSyntax", laid_strconv_ErrSyntax), ("trickle/trace.kinds", laid_trickle_trace_kinds), ("unicode/utf8.first", laid_unicode_utf8_first)] }
def TraceRoundTripsSaid : Prop := traceRoundTripsRow.holds Tryd.pinned (OpenSpec.ofChange traceRoundTripsSpec)

/-- ITS FALSE NEIGHBOUR: 'it returns false'. Refute it at one input. -/
def traceRoundTripsWrong : ChangeSpec := { name := "traceRoundTrips", fn := fun _ => fun
  | [d1, d2] => { results := [.lit (.bool false)], args := [d1, d2] }
  | _ => none }
def TraceRoundTripsWrongFalsely : Prop := traceRoundTripsRow.holds Tryd.pinned (OpenSpec.ofChange traceRoundTripsWrong)

/-- 'tricklelaw52.TraceKinds': WHATEVER THE INPUT: true; the input reads as it did. -/
def traceKindsSpec : ChangeSpec := { name := "traceKinds", fn := fun _ => fun
  | [d1, d2, d3] => { results := [.lit (.bool true)], args := [d1, d2, d3] }
  | _ => none }
def traceKindsRow : OpenClaim := { program := "ytdfconiahfdhbaadoor", sum := "b5f63c2048b881680217019665c002bca021d5397e4f3e1adf9e3d928b7e9e5c", func := "trickle/tricklelaw52.TraceKinds", spec := "traceKinds", inPlace := ["internal/bytealg.IndexByteString", "internal/bytealg.IndexString", "internal/bytealg.CountString", "internal/abi.NoEscape"], unfollowed := true, recurses := true, named := ["unicode/utf8.first", "unicode/utf8.acceptRanges", "internal/bytealg.MaxLen", "trickle/trace.kinds", "strconv.ErrSyntax", "strconv.ErrRange", "internal/strconv.uint64pow10", "math/bits.deBruijn32tab", "math/bits.deBruijn64tab"], apart := false, laid := [("math/bits.deBruijn32tab", laid_math_bits_deBruijn32tab), ("math/bits.deBruijn64tab", laid_math_bits_deBruijn64tab), ("internal/strconv.uint64pow10", laid_internal_strconv_uint64pow10), ("unicode/utf8.acceptRanges", laid_unicode_utf8_acceptRanges), ("strconv.ErrRange", laid_strconv_ErrRange), ("strconv.ErrSyntax", laid_strconv_ErrSyntax), ("trickle/trace.kinds", laid_trickle_trace_kinds), ("unicode/utf8.first", laid_unicode_utf8_first)] }
def TraceKindsSaid : Prop := traceKindsRow.holds Tryd.pinned (OpenSpec.ofChange traceKindsSpec)

/-- ITS FALSE NEIGHBOUR: 'it returns false'. Refute it at one input. -/
def traceKindsWrong : ChangeSpec := { name := "traceKinds", fn := fun _ => fun
  | [d1, d2, d3] => { results := [.lit (.bool false)], args := [d1, d2, d3] }
  | _ => none }
def TraceKindsWrongFalsely : Prop := traceKindsRow.holds Tryd.pinned (OpenSpec.ofChange traceKindsWrong)

/-- 'tricklelaw52.TraceAttempts': WHATEVER THE INPUT: true; the input reads as it did. -/
def traceAttemptsSpec : ChangeSpec := { name := "traceAttempts", fn := fun _ => fun
  | [d] => { results := [.lit (.bool true)], args := [d] }
  | _ => none }
def traceAttemptsRow : OpenClaim := { program := "ytdfconiahfdhbaadoor", sum := "b5f63c2048b881680217019665c002bca021d5397e4f3e1adf9e3d928b7e9e5c", func := "trickle/tricklelaw52.TraceAttempts", spec := "traceAttempts", inPlace := ["internal/bytealg.IndexByteString", "internal/bytealg.IndexString", "internal/bytealg.CountString", "internal/abi.NoEscape"], unfollowed := true, recurses := true, named := ["unicode/utf8.first", "unicode/utf8.acceptRanges", "internal/bytealg.MaxLen", "trickle/trace.kinds", "strconv.ErrSyntax", "strconv.ErrRange", "internal/strconv.uint64pow10", "math/bits.deBruijn32tab", "math/bits.deBruijn64tab"], apart := false, laid := [("math/bits.deBruijn32tab", laid_math_bits_deBruijn32tab), ("math/bits.deBruijn64tab", laid_math_bits_deBruijn64tab), ("internal/strconv.uint64pow10", laid_internal_strconv_uint64pow10), ("unicode/utf8.acceptRanges", laid_unicode_utf8_acceptRanges), ("strconv.ErrRange", laid_strconv_ErrRange), ("strconv.ErrSyntax", laid_strconv_ErrSyntax), ("trickle/trace.kinds", laid_trickle_trace_kinds), ("unicode/utf8.first", laid_unicode_utf8_first)] }
def TraceAttemptsSaid : Prop := traceAttemptsRow.holds Tryd.pinned (OpenSpec.ofChange traceAttemptsSpec)

/-- ITS FALSE NEIGHBOUR: 'it returns false'. Refute it at one input. -/
def traceAttemptsWrong : ChangeSpec := { name := "traceAttempts", fn := fun _ => fun
  | [d] => { results := [.lit (.bool false)], args := [d] }
  | _ => none }
def TraceAttemptsWrongFalsely : Prop := traceAttemptsRow.holds Tryd.pinned (OpenSpec.ofChange traceAttemptsWrong)

/-- 'tricklelaw52.TraceAttemptsCover': WHATEVER THE INPUT: true; the input reads as it did. -/
def traceAttemptsCoverSpec : ChangeSpec := { name := "traceAttemptsCover", fn := fun _ => fun
  | [d] => { results := [.lit (.bool true)], args := [d] }
  | _ => none }
def traceAttemptsCoverRow : OpenClaim := { program := "ytdfconiahfdhbaadoor", sum := "b5f63c2048b881680217019665c002bca021d5397e4f3e1adf9e3d928b7e9e5c", func := "trickle/tricklelaw52.TraceAttemptsCover", spec := "traceAttemptsCover", inPlace := ["internal/bytealg.IndexByteString", "internal/bytealg.IndexString", "internal/bytealg.CountString", "internal/abi.NoEscape"], unfollowed := true, recurses := true, named := ["unicode/utf8.first", "unicode/utf8.acceptRanges", "internal/bytealg.MaxLen", "trickle/trace.kinds", "strconv.ErrSyntax", "strconv.ErrRange", "internal/strconv.uint64pow10", "math/bits.deBruijn32tab", "math/bits.deBruijn64tab"], apart := false, laid := [("math/bits.deBruijn32tab", laid_math_bits_deBruijn32tab), ("math/bits.deBruijn64tab", laid_math_bits_deBruijn64tab), ("internal/strconv.uint64pow10", laid_internal_strconv_uint64pow10), ("unicode/utf8.acceptRanges", laid_unicode_utf8_acceptRanges), ("strconv.ErrRange", laid_strconv_ErrRange), ("strconv.ErrSyntax", laid_strconv_ErrSyntax), ("trickle/trace.kinds", laid_trickle_trace_kinds), ("unicode/utf8.first", laid_unicode_utf8_first)] }
def TraceAttemptsCoverSaid : Prop := traceAttemptsCoverRow.holds Tryd.pinned (OpenSpec.ofChange traceAttemptsCoverSpec)

/-- ITS FALSE NEIGHBOUR: 'it returns false'. Refute it at one input. -/
def traceAttemptsCoverWrong : ChangeSpec := { name := "traceAttemptsCover", fn := fun _ => fun
  | [d] => { results := [.lit (.bool false)], args := [d] }
  | _ => none }
def TraceAttemptsCoverWrongFalsely : Prop := traceAttemptsCoverRow.holds Tryd.pinned (OpenSpec.ofChange traceAttemptsCoverWrong)

/-- 'tricklelaw52.TraceReadings': WHATEVER THE INPUT: true; the input reads as it did. -/
def traceReadingsSpec : ChangeSpec := { name := "traceReadings", fn := fun _ => fun
  | [d] => { results := [.lit (.bool true)], args := [d] }
  | _ => none }
def traceReadingsRow : OpenClaim := { program := "ytdfconiahfdhbaadoor", sum := "b5f63c2048b881680217019665c002bca021d5397e4f3e1adf9e3d928b7e9e5c", func := "trickle/tricklelaw52.TraceReadings", spec := "traceReadings", inPlace := ["internal/bytealg.IndexByteString", "internal/bytealg.IndexString", "internal/bytealg.CountString", "internal/abi.NoEscape"], unfollowed := true, recurses := true, named := ["unicode/utf8.first", "unicode/utf8.acceptRanges", "internal/bytealg.MaxLen", "trickle/trace.kinds", "strconv.ErrSyntax", "strconv.ErrRange", "internal/strconv.uint64pow10", "math/bits.deBruijn32tab", "math/bits.deBruijn64tab"], apart := false, laid := [("math/bits.deBruijn32tab", laid_math_bits_deBruijn32tab), ("math/bits.deBruijn64tab", laid_math_bits_deBruijn64tab), ("internal/strconv.uint64pow10", laid_internal_strconv_uint64pow10), ("unicode/utf8.acceptRanges", laid_unicode_utf8_acceptRanges), ("strconv.ErrRange", laid_strconv_ErrRange), ("strconv.ErrSyntax", laid_strconv_ErrSyntax), ("trickle/trace.kinds", laid_trickle_trace_kinds), ("unicode/utf8.first", laid_unicode_utf8_first)] }
def TraceReadingsSaid : Prop := traceReadingsRow.holds Tryd.pinned (OpenSpec.ofChange traceReadingsSpec)

/-- ITS FALSE NEIGHBOUR: 'it returns false'. Refute it at one input. -/
def traceReadingsWrong : ChangeSpec := { name := "traceReadings", fn := fun _ => fun
  | [d] => { results := [.lit (.bool false)], args := [d] }
  | _ => none }
def TraceReadingsWrongFalsely : Prop := traceReadingsRow.holds Tryd.pinned (OpenSpec.ofChange traceReadingsWrong)

/- THE SECOND FORM. 'bulk': how many values and letters a reading holds, each counted each time it is reached (what is shared counts as often as it is met; a slice's spare places count too). A statement '..UptoSaid' is the law's where the arguments, and the package variables that the reading takes, are together of bulk at most 1048576: NARROWER than '..Said'. Prove '..Said' where nothing that the law and all that it calls make is longer than what came in: it says more and counts as full. Else prove '..UptoSaid'. A law counts once. -/
mutual
def uptoBulk {H : Type} : DataW H → Nat
  | .lit (.string bytes) => bytes.length + 1
  | .lit _ => 1
  | .nil => 1
  | .ptr d => uptoBulk d + 1
  | .slice elems spare => uptoBulkAll elems + uptoBulkAll spare + 1
  | .agg parts => uptoBulkAll parts + 1
  | .iface _ d => uptoBulk d + 1
  | .map entries => uptoBulkEntries entries + 1
  | .held _ => 1
def uptoBulkAll {H : Type} : List (DataW H) → Nat
  | [] => 0
  | d :: r => uptoBulk d + uptoBulkAll r
def uptoBulkEntries {H : Type} : List (Lit × DataW H) → Nat
  | [] => 0
  | x :: r => uptoBulkEntry x + uptoBulkEntries r
def uptoBulkEntry {H : Type} : Lit × DataW H → Nat
  | (.string bytes, d) => bytes.length + uptoBulk d + 1
  | (_, d) => uptoBulk d + 1
 end
def uptoSmall : (H : Type) → List (DataW H) → Bool := fun _ ds => decide (uptoBulkAll ds ≤ 1048576)
def OpenSpec.upto (s : _root_.Go.ChangeSpec) : _root_.Go.OpenSpec := { _root_.Go.OpenSpec.ofChange s with cond := some uptoSmall }

/-- 'tricklelaw52.TraceFormats', WHERE WHAT IT READS IS OF BULK AT MOST 1048576: true; the input reads as it did. -/
def traceFormatsUptoRow : OpenClaim := { program := "ytdfconiahfdhbaadoor", sum := "b5f63c2048b881680217019665c002bca021d5397e4f3e1adf9e3d928b7e9e5c", func := "trickle/tricklelaw52.TraceFormats", spec := "traceFormats", inPlace := ["internal/bytealg.IndexByteString", "internal/bytealg.IndexString", "internal/bytealg.CountString", "internal/abi.NoEscape"], unfollowed := true, recurses := true, named := ["unicode/utf8.first", "unicode/utf8.acceptRanges", "internal/bytealg.MaxLen", "trickle/trace.kinds", "strconv.ErrSyntax", "strconv.ErrRange", "internal/strconv.uint64pow10", "math/bits.deBruijn32tab", "math/bits.deBruijn64tab"], apart := false, laid := [("math/bits.deBruijn32tab", laid_math_bits_deBruijn32tab), ("math/bits.deBruijn64tab", laid_math_bits_deBruijn64tab), ("internal/strconv.uint64pow10", laid_internal_strconv_uint64pow10), ("unicode/utf8.acceptRanges", laid_unicode_utf8_acceptRanges), ("strconv.ErrRange", laid_strconv_ErrRange), ("strconv.ErrSyntax", laid_strconv_ErrSyntax), ("trickle/trace.kinds", laid_trickle_trace_kinds), ("unicode/utf8.first", laid_unicode_utf8_first)], narrowed := true }
def TraceFormatsUptoSaid : Prop := traceFormatsUptoRow.holds Tryd.pinned (OpenSpec.upto traceFormatsSpec)

/-- 'tricklelaw52.TraceParses', WHERE WHAT IT READS IS OF BULK AT MOST 1048576: true; the input reads as it did. -/
def traceParsesUptoRow : OpenClaim := { program := "ytdfconiahfdhbaadoor", sum := "b5f63c2048b881680217019665c002bca021d5397e4f3e1adf9e3d928b7e9e5c", func := "trickle/tricklelaw52.TraceParses", spec := "traceParses", inPlace := ["internal/bytealg.IndexByteString", "internal/bytealg.IndexString", "internal/bytealg.CountString", "internal/abi.NoEscape"], unfollowed := true, recurses := true, named := ["unicode/utf8.first", "unicode/utf8.acceptRanges", "internal/bytealg.MaxLen", "trickle/trace.kinds", "strconv.ErrSyntax", "strconv.ErrRange", "internal/strconv.uint64pow10", "math/bits.deBruijn32tab", "math/bits.deBruijn64tab"], apart := false, laid := [("math/bits.deBruijn32tab", laid_math_bits_deBruijn32tab), ("math/bits.deBruijn64tab", laid_math_bits_deBruijn64tab), ("internal/strconv.uint64pow10", laid_internal_strconv_uint64pow10), ("unicode/utf8.acceptRanges", laid_unicode_utf8_acceptRanges), ("strconv.ErrRange", laid_strconv_ErrRange), ("strconv.ErrSyntax", laid_strconv_ErrSyntax), ("trickle/trace.kinds", laid_trickle_trace_kinds), ("unicode/utf8.first", laid_unicode_utf8_first)], narrowed := true }
def TraceParsesUptoSaid : Prop := traceParsesUptoRow.holds Tryd.pinned (OpenSpec.upto traceParsesSpec)

/-- 'tricklelaw52.TraceRoundTrips', WHERE WHAT IT READS IS OF BULK AT MOST 1048576: true; the input reads as it did. -/
def traceRoundTripsUptoRow : OpenClaim := { program := "ytdfconiahfdhbaadoor", sum := "b5f63c2048b881680217019665c002bca021d5397e4f3e1adf9e3d928b7e9e5c", func := "trickle/tricklelaw52.TraceRoundTrips", spec := "traceRoundTrips", inPlace := ["internal/bytealg.IndexByteString", "internal/bytealg.IndexString", "internal/bytealg.CountString", "internal/abi.NoEscape"], unfollowed := true, recurses := true, named := ["unicode/utf8.first", "unicode/utf8.acceptRanges", "internal/bytealg.MaxLen", "trickle/trace.kinds", "strconv.ErrSyntax", "strconv.ErrRange", "internal/strconv.uint64pow10", "math/bits.deBruijn32tab", "math/bits.deBruijn64tab"], apart := false, laid := [("math/bits.deBruijn32tab", laid_math_bits_deBruijn32tab), ("math/bits.deBruijn64tab", laid_math_bits_deBruijn64tab), ("internal/strconv.uint64pow10", laid_internal_strconv_uint64pow10), ("unicode/utf8.acceptRanges", laid_unicode_utf8_acceptRanges), ("strconv.ErrRange", laid_strconv_ErrRange), ("strconv.ErrSyntax", laid_strconv_ErrSyntax), ("trickle/trace.kinds", laid_trickle_trace_kinds), ("unicode/utf8.first", laid_unicode_utf8_first)], narrowed := true }
def TraceRoundTripsUptoSaid : Prop := traceRoundTripsUptoRow.holds Tryd.pinned (OpenSpec.upto traceRoundTripsSpec)

/-- 'tricklelaw52.TraceKinds', WHERE WHAT IT READS IS OF BULK AT MOST 1048576: true; the input reads as it did. -/
def traceKindsUptoRow : OpenClaim := { program := "ytdfconiahfdhbaadoor", sum := "b5f63c2048b881680217019665c002bca021d5397e4f3e1adf9e3d928b7e9e5c", func := "trickle/tricklelaw52.TraceKinds", spec := "traceKinds", inPlace := ["internal/bytealg.IndexByteString", "internal/bytealg.IndexString", "internal/bytealg.CountString", "internal/abi.NoEscape"], unfollowed := true, recurses := true, named := ["unicode/utf8.first", "unicode/utf8.acceptRanges", "internal/bytealg.MaxLen", "trickle/trace.kinds", "strconv.ErrSyntax", "strconv.ErrRange", "internal/strconv.uint64pow10", "math/bits.deBruijn32tab", "math/bits.deBruijn64tab"], apart := false, laid := [("math/bits.deBruijn32tab", laid_math_bits_deBruijn32tab), ("math/bits.deBruijn64tab", laid_math_bits_deBruijn64tab), ("internal/strconv.uint64pow10", laid_internal_strconv_uint64pow10), ("unicode/utf8.acceptRanges", laid_unicode_utf8_acceptRanges), ("strconv.ErrRange", laid_strconv_ErrRange), ("strconv.ErrSyntax", laid_strconv_ErrSyntax), ("trickle/trace.kinds", laid_trickle_trace_kinds), ("unicode/utf8.first", laid_unicode_utf8_first)], narrowed := true }
def TraceKindsUptoSaid : Prop := traceKindsUptoRow.holds Tryd.pinned (OpenSpec.upto traceKindsSpec)

/-- 'tricklelaw52.TraceAttempts', WHERE WHAT IT READS IS OF BULK AT MOST 1048576: true; the input reads as it did. -/
def traceAttemptsUptoRow : OpenClaim := { program := "ytdfconiahfdhbaadoor", sum := "b5f63c2048b881680217019665c002bca021d5397e4f3e1adf9e3d928b7e9e5c", func := "trickle/tricklelaw52.TraceAttempts", spec := "traceAttempts", inPlace := ["internal/bytealg.IndexByteString", "internal/bytealg.IndexString", "internal/bytealg.CountString", "internal/abi.NoEscape"], unfollowed := true, recurses := true, named := ["unicode/utf8.first", "unicode/utf8.acceptRanges", "internal/bytealg.MaxLen", "trickle/trace.kinds", "strconv.ErrSyntax", "strconv.ErrRange", "internal/strconv.uint64pow10", "math/bits.deBruijn32tab", "math/bits.deBruijn64tab"], apart := false, laid := [("math/bits.deBruijn32tab", laid_math_bits_deBruijn32tab), ("math/bits.deBruijn64tab", laid_math_bits_deBruijn64tab), ("internal/strconv.uint64pow10", laid_internal_strconv_uint64pow10), ("unicode/utf8.acceptRanges", laid_unicode_utf8_acceptRanges), ("strconv.ErrRange", laid_strconv_ErrRange), ("strconv.ErrSyntax", laid_strconv_ErrSyntax), ("trickle/trace.kinds", laid_trickle_trace_kinds), ("unicode/utf8.first", laid_unicode_utf8_first)], narrowed := true }
def TraceAttemptsUptoSaid : Prop := traceAttemptsUptoRow.holds Tryd.pinned (OpenSpec.upto traceAttemptsSpec)

/-- 'tricklelaw52.TraceAttemptsCover', WHERE WHAT IT READS IS OF BULK AT MOST 1048576: true; the input reads as it did. -/
def traceAttemptsCoverUptoRow : OpenClaim := { program := "ytdfconiahfdhbaadoor", sum := "b5f63c2048b881680217019665c002bca021d5397e4f3e1adf9e3d928b7e9e5c", func := "trickle/tricklelaw52.TraceAttemptsCover", spec := "traceAttemptsCover", inPlace := ["internal/bytealg.IndexByteString", "internal/bytealg.IndexString", "internal/bytealg.CountString", "internal/abi.NoEscape"], unfollowed := true, recurses := true, named := ["unicode/utf8.first", "unicode/utf8.acceptRanges", "internal/bytealg.MaxLen", "trickle/trace.kinds", "strconv.ErrSyntax", "strconv.ErrRange", "internal/strconv.uint64pow10", "math/bits.deBruijn32tab", "math/bits.deBruijn64tab"], apart := false, laid := [("math/bits.deBruijn32tab", laid_math_bits_deBruijn32tab), ("math/bits.deBruijn64tab", laid_math_bits_deBruijn64tab), ("internal/strconv.uint64pow10", laid_internal_strconv_uint64pow10), ("unicode/utf8.acceptRanges", laid_unicode_utf8_acceptRanges), ("strconv.ErrRange", laid_strconv_ErrRange), ("strconv.ErrSyntax", laid_strconv_ErrSyntax), ("trickle/trace.kinds", laid_trickle_trace_kinds), ("unicode/utf8.first", laid_unicode_utf8_first)], narrowed := true }
def TraceAttemptsCoverUptoSaid : Prop := traceAttemptsCoverUptoRow.holds Tryd.pinned (OpenSpec.upto traceAttemptsCoverSpec)

/-- 'tricklelaw52.TraceReadings', WHERE WHAT IT READS IS OF BULK AT MOST 1048576: true; the input reads as it did. -/
def traceReadingsUptoRow : OpenClaim := { program := "ytdfconiahfdhbaadoor", sum := "b5f63c2048b881680217019665c002bca021d5397e4f3e1adf9e3d928b7e9e5c", func := "trickle/tricklelaw52.TraceReadings", spec := "traceReadings", inPlace := ["internal/bytealg.IndexByteString", "internal/bytealg.IndexString", "internal/bytealg.CountString", "internal/abi.NoEscape"], unfollowed := true, recurses := true, named := ["unicode/utf8.first", "unicode/utf8.acceptRanges", "internal/bytealg.MaxLen", "trickle/trace.kinds", "strconv.ErrSyntax", "strconv.ErrRange", "internal/strconv.uint64pow10", "math/bits.deBruijn32tab", "math/bits.deBruijn64tab"], apart := false, laid := [("math/bits.deBruijn32tab", laid_math_bits_deBruijn32tab), ("math/bits.deBruijn64tab", laid_math_bits_deBruijn64tab), ("internal/strconv.uint64pow10", laid_internal_strconv_uint64pow10), ("unicode/utf8.acceptRanges", laid_unicode_utf8_acceptRanges), ("strconv.ErrRange", laid_strconv_ErrRange), ("strconv.ErrSyntax", laid_strconv_ErrSyntax), ("trickle/trace.kinds", laid_trickle_trace_kinds), ("unicode/utf8.first", laid_unicode_utf8_first)], narrowed := true }
def TraceReadingsUptoSaid : Prop := traceReadingsUptoRow.holds Tryd.pinned (OpenSpec.upto traceReadingsSpec)

end Rows
end Go.Proofs.YtdfconiahfdhbaaDoor
