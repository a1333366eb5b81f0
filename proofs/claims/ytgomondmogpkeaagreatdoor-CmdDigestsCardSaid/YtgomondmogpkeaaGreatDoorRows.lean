/-
  NARROWER THAN 'FOR EVERY INPUT', by the rows' own cells (each row's printed sentence says how): FieldJoins: laid · FieldSplits: laid · FieldNums: laid · FieldLimits: laid · FieldNests: laid · FieldMaps: laid · CmdAny: laid · CmdWords: laid · CmdEdges: laid · CmdTells: laid · CmdDigests: laid.
  DERIVED. THE GIVEN ROWS OF THIS SEAT. 11 by the template 'for every input the law returns true; each argument reads behind the call as it read before'; 0 by the template 'total and deterministic' (their statements: YtgomondmogpkeaaGreatDoorTotals.lean).
  GIVEN WITH THE SEED: the statements are not yours to turn. If you find one false, say at which input.
  Laid BY PROGRAM, IN A SANDBOX (cutbox-rows.mjs): the forced cells as the released guide's own fill.sh prints them over the translation cda5be9ba685a094… (all of the seat's roots in one cut). By AI agents, Wed Nov 11 2026. No macro, syntax, notation, axiom, sorry.
-/
import Derived.Test.YtgomondmogpkeaaGreatDoorChecked
import GoSem.PinnedTables
import GoSem.Claim
import GoSem.ClaimJoined
import GoSem.ClaimMapViews
import Derived.JoinedTies
import Derived.KernelRfl
namespace Go.Proofs.YtgomondmogpkeaaGreatDoor
/- THE CELL 'sum', in the pinned program and in every row, IS THE sha256 OF THE DUMP (.gsa) THAT YtgomondmogpkeaaGreatDoorProg.lean LOADS. Nothing in Lean hashes anything: it is a label: what it is worth is what the hold of that sum in a sandbox is worth. -/
noncomputable def Tryz.pinned : Pinned := { name := "ytgomondmogpkeaagreatdoor", sum := "cda5be9ba685a0941dc4d0fdf0bd00f6ddd9579a339e5ac19d16acfc27858ae3", checked := Tryz.checked }
namespace Rows
def none {H : Type} : Left H := { results := [], args := [] }

/- WHAT THE LISTED PACKAGE-LEVEL VARIABLES READ AS WHEN THE CALL BEGINS. Each datum BY PROGRAM (the guide's laid-datum.mjs) off the statement by which the dump's own 'gosem.cut.vars' lays the variable. In a bare row this is a premise. The card (YtgomondmogpkeaaGreatDoorCards.lean) ties it to the program's text. -/
def laid_math_bits_deBruijn32tab {H : Type} : DataW H := .agg [.lit (.int .u8 0), .lit (.int .u8 1), .lit (.int .u8 28), .lit (.int .u8 2), .lit (.int .u8 29), .lit (.int .u8 14), .lit (.int .u8 24), .lit (.int .u8 3), .lit (.int .u8 30), .lit (.int .u8 22), .lit (.int .u8 20), .lit (.int .u8 15), .lit (.int .u8 25), .lit (.int .u8 17), .lit (.int .u8 4), .lit (.int .u8 8), .lit (.int .u8 31), .lit (.int .u8 27), .lit (.int .u8 13), .lit (.int .u8 23), .lit (.int .u8 21), .lit (.int .u8 19), .lit (.int .u8 16), .lit (.int .u8 7), .lit (.int .u8 26), .lit (.int .u8 12), .lit (.int .u8 18), .lit (.int .u8 6), .lit (.int .u8 11), .lit (.int .u8 5), .lit (.int .u8 10), .lit (.int .u8 9)]
def laid_math_bits_deBruijn64tab {H : Type} : DataW H := .agg [.lit (.int .u8 0), .lit (.int .u8 1), .lit (.int .u8 56), .lit (.int .u8 2), .lit (.int .u8 57), .lit (.int .u8 49), .lit (.int .u8 28), .lit (.int .u8 3), .lit (.int .u8 61), .lit (.int .u8 58), .lit (.int .u8 42), .lit (.int .u8 50), .lit (.int .u8 38), .lit (.int .u8 29), .lit (.int .u8 17), .lit (.int .u8 4), .lit (.int .u8 62), .lit (.int .u8 47), .lit (.int .u8 59), .lit (.int .u8 36), .lit (.int .u8 45), .lit (.int .u8 43), .lit (.int .u8 51), .lit (.int .u8 22), .lit (.int .u8 53), .lit (.int .u8 39), .lit (.int .u8 33), .lit (.int .u8 30), .lit (.int .u8 24), .lit (.int .u8 18), .lit (.int .u8 12), .lit (.int .u8 5), .lit (.int .u8 63), .lit (.int .u8 55), .lit (.int .u8 48), .lit (.int .u8 27), .lit (.int .u8 60), .lit (.int .u8 41), .lit (.int .u8 37), .lit (.int .u8 16), .lit (.int .u8 46), .lit (.int .u8 35), .lit (.int .u8 44), .lit (.int .u8 21), .lit (.int .u8 52), .lit (.int .u8 32), .lit (.int .u8 23), .lit (.int .u8 11), .lit (.int .u8 54), .lit (.int .u8 26), .lit (.int .u8 40), .lit (.int .u8 15), .lit (.int .u8 34), .lit (.int .u8 20), .lit (.int .u8 31), .lit (.int .u8 10), .lit (.int .u8 25), .lit (.int .u8 14), .lit (.int .u8 19), .lit (.int .u8 9), .lit (.int .u8 13), .lit (.int .u8 8), .lit (.int .u8 7), .lit (.int .u8 6)]
def laid_internal_strconv_uint64pow10 {H : Type} : DataW H := .agg [.lit (.int .u64 1), .lit (.int .u64 10), .lit (.int .u64 100), .lit (.int .u64 1000), .lit (.int .u64 10000), .lit (.int .u64 100000), .lit (.int .u64 1000000), .lit (.int .u64 10000000), .lit (.int .u64 100000000), .lit (.int .u64 1000000000), .lit (.int .u64 10000000000), .lit (.int .u64 100000000000), .lit (.int .u64 1000000000000), .lit (.int .u64 10000000000000), .lit (.int .u64 100000000000000), .lit (.int .u64 1000000000000000), .lit (.int .u64 10000000000000000), .lit (.int .u64 100000000000000000), .lit (.int .u64 1000000000000000000), .lit (.int .u64 10000000000000000000)]
def laid_unicode_utf8_acceptRanges {H : Type} : DataW H := .agg [.agg [.lit (.int .u8 128), .lit (.int .u8 191)], .agg [.lit (.int .u8 160), .lit (.int .u8 191)], .agg [.lit (.int .u8 128), .lit (.int .u8 159)], .agg [.lit (.int .u8 144), .lit (.int .u8 191)], .agg [.lit (.int .u8 128), .lit (.int .u8 143)], .agg [.lit (.int .u8 0), .lit (.int .u8 0)], .agg [.lit (.int .u8 0), .lit (.int .u8 0)], .agg [.lit (.int .u8 0), .lit (.int .u8 0)], .agg [.lit (.int .u8 0), .lit (.int .u8 0)], .agg [.lit (.int .u8 0), .lit (.int .u8 0)], .agg [.lit (.int .u8 0), .lit (.int .u8 0)], .agg [.lit (.int .u8 0), .lit (.int .u8 0)], .agg [.lit (.int .u8 0), .lit (.int .u8 0)], .agg [.lit (.int .u8 0), .lit (.int .u8 0)], .agg [.lit (.int .u8 0), .lit (.int .u8 0)], .agg [.lit (.int .u8 0), .lit (.int .u8 0)]]
def laid_strconv_ErrRange {H : Type} : DataW H := .iface "*errors.errorString" (.ptr (.agg [.lit (.string [118, 97, 108, 117, 101, 32, 111, 117, 116, 32, 111, 102, 32, 114, 97, 110, 103, 101])]))
def laid_strconv_ErrSyntax {H : Type} : DataW H := .iface "*errors.errorString" (.ptr (.agg [.lit (.string [105, 110, 118, 97, 108, 105, 100, 32, 115, 121, 110, 116, 97, 120])]))
/-- One of Go's own tables, pinned by name: the form's constant. -/
def laid_unicode_utf8_first : DataW Unit := Go.Pinned.utf8First

/-- 'folkmootlaw1.FieldJoins': WHATEVER THE INPUT: true; the input reads as it did. -/
def fieldJoinsSpec : ChangeSpec := { name := "fieldJoins", fn := fun _ => fun
  | [d1, d2] => { results := [.lit (.bool true)], args := [d1, d2] }
  | _ => none }
def fieldJoinsRow : OpenClaim := { program := "ytgomondmogpkeaagreatdoor", sum := "cda5be9ba685a0941dc4d0fdf0bd00f6ddd9579a339e5ac19d16acfc27858ae3", func := "folkmoot/folkmootlaw1.FieldJoins", spec := "fieldJoins", inPlace := ["internal/abi.NoEscape", "internal/bytealg.IndexByteString", "internal/bytealg.IndexString", "internal/reflectlite.TypeOf", "internal/bytealg.MakeNoZero"], unfollowed := true, recurses := true, named := ["strconv.ErrRange", "unicode/utf8.first", "unicode/utf8.acceptRanges", "strconv.ErrSyntax", "internal/strconv.uint64pow10", "math/bits.deBruijn32tab", "math/bits.deBruijn64tab", "internal/bytealg.MaxLen"], apart := false, laid := [("math/bits.deBruijn32tab", laid_math_bits_deBruijn32tab), ("math/bits.deBruijn64tab", laid_math_bits_deBruijn64tab), ("internal/strconv.uint64pow10", laid_internal_strconv_uint64pow10), ("unicode/utf8.acceptRanges", laid_unicode_utf8_acceptRanges), ("strconv.ErrRange", laid_strconv_ErrRange), ("strconv.ErrSyntax", laid_strconv_ErrSyntax), ("unicode/utf8.first", laid_unicode_utf8_first)] }
def FieldJoinsSaid : Prop := fieldJoinsRow.holds Tryz.pinned (OpenSpec.ofChange fieldJoinsSpec)

/-- ITS FALSE NEIGHBOUR: 'it returns false'. Refute it at one input. -/
def fieldJoinsWrong : ChangeSpec := { name := "fieldJoins", fn := fun _ => fun
  | [d1, d2] => { results := [.lit (.bool false)], args := [d1, d2] }
  | _ => none }
def FieldJoinsWrongFalsely : Prop := fieldJoinsRow.holds Tryz.pinned (OpenSpec.ofChange fieldJoinsWrong)

/-- 'folkmootlaw1.FieldSplits': WHATEVER THE INPUT: true; the input reads as it did. -/
def fieldSplitsSpec : ChangeSpec := { name := "fieldSplits", fn := fun _ => fun
  | [d] => { results := [.lit (.bool true)], args := [d] }
  | _ => none }
def fieldSplitsRow : OpenClaim := { program := "ytgomondmogpkeaagreatdoor", sum := "cda5be9ba685a0941dc4d0fdf0bd00f6ddd9579a339e5ac19d16acfc27858ae3", func := "folkmoot/folkmootlaw1.FieldSplits", spec := "fieldSplits", inPlace := ["internal/abi.NoEscape", "internal/bytealg.IndexByteString", "internal/bytealg.IndexString", "internal/reflectlite.TypeOf", "internal/bytealg.MakeNoZero"], unfollowed := true, recurses := true, named := ["strconv.ErrRange", "unicode/utf8.first", "unicode/utf8.acceptRanges", "strconv.ErrSyntax", "internal/strconv.uint64pow10", "math/bits.deBruijn32tab", "math/bits.deBruijn64tab", "internal/bytealg.MaxLen"], apart := false, laid := [("math/bits.deBruijn32tab", laid_math_bits_deBruijn32tab), ("math/bits.deBruijn64tab", laid_math_bits_deBruijn64tab), ("internal/strconv.uint64pow10", laid_internal_strconv_uint64pow10), ("unicode/utf8.acceptRanges", laid_unicode_utf8_acceptRanges), ("strconv.ErrRange", laid_strconv_ErrRange), ("strconv.ErrSyntax", laid_strconv_ErrSyntax), ("unicode/utf8.first", laid_unicode_utf8_first)] }
def FieldSplitsSaid : Prop := fieldSplitsRow.holds Tryz.pinned (OpenSpec.ofChange fieldSplitsSpec)

/-- ITS FALSE NEIGHBOUR: 'it returns false'. Refute it at one input. -/
def fieldSplitsWrong : ChangeSpec := { name := "fieldSplits", fn := fun _ => fun
  | [d] => { results := [.lit (.bool false)], args := [d] }
  | _ => none }
def FieldSplitsWrongFalsely : Prop := fieldSplitsRow.holds Tryz.pinned (OpenSpec.ofChange fieldSplitsWrong)

/-- 'folkmootlaw1.FieldNums': WHATEVER THE INPUT: true; the input reads as it did. -/
def fieldNumsSpec : ChangeSpec := { name := "fieldNums", fn := fun _ => fun
  | [d1, d2] => { results := [.lit (.bool true)], args := [d1, d2] }
  | _ => none }
def fieldNumsRow : OpenClaim := { program := "ytgomondmogpkeaagreatdoor", sum := "cda5be9ba685a0941dc4d0fdf0bd00f6ddd9579a339e5ac19d16acfc27858ae3", func := "folkmoot/folkmootlaw1.FieldNums", spec := "fieldNums", inPlace := ["internal/abi.NoEscape", "internal/bytealg.IndexByteString", "internal/bytealg.IndexString", "internal/reflectlite.TypeOf", "internal/bytealg.MakeNoZero"], unfollowed := true, recurses := true, named := ["strconv.ErrRange", "unicode/utf8.first", "unicode/utf8.acceptRanges", "strconv.ErrSyntax", "internal/strconv.uint64pow10", "math/bits.deBruijn32tab", "math/bits.deBruijn64tab", "internal/bytealg.MaxLen"], apart := false, laid := [("math/bits.deBruijn32tab", laid_math_bits_deBruijn32tab), ("math/bits.deBruijn64tab", laid_math_bits_deBruijn64tab), ("internal/strconv.uint64pow10", laid_internal_strconv_uint64pow10), ("unicode/utf8.acceptRanges", laid_unicode_utf8_acceptRanges), ("strconv.ErrRange", laid_strconv_ErrRange), ("strconv.ErrSyntax", laid_strconv_ErrSyntax), ("unicode/utf8.first", laid_unicode_utf8_first)] }
def FieldNumsSaid : Prop := fieldNumsRow.holds Tryz.pinned (OpenSpec.ofChange fieldNumsSpec)

/-- ITS FALSE NEIGHBOUR: 'it returns false'. Refute it at one input. -/
def fieldNumsWrong : ChangeSpec := { name := "fieldNums", fn := fun _ => fun
  | [d1, d2] => { results := [.lit (.bool false)], args := [d1, d2] }
  | _ => none }
def FieldNumsWrongFalsely : Prop := fieldNumsRow.holds Tryz.pinned (OpenSpec.ofChange fieldNumsWrong)

/-- 'folkmootlaw1.FieldLimits': WHATEVER THE INPUT: true; the input reads as it did. -/
def fieldLimitsSpec : ChangeSpec := { name := "fieldLimits", fn := fun _ => fun
  | [d1, d2] => { results := [.lit (.bool true)], args := [d1, d2] }
  | _ => none }
def fieldLimitsRow : OpenClaim := { program := "ytgomondmogpkeaagreatdoor", sum := "cda5be9ba685a0941dc4d0fdf0bd00f6ddd9579a339e5ac19d16acfc27858ae3", func := "folkmoot/folkmootlaw1.FieldLimits", spec := "fieldLimits", inPlace := ["internal/abi.NoEscape", "internal/bytealg.IndexByteString", "internal/bytealg.IndexString", "internal/reflectlite.TypeOf", "internal/bytealg.MakeNoZero"], unfollowed := true, recurses := true, named := ["strconv.ErrRange", "unicode/utf8.first", "unicode/utf8.acceptRanges", "strconv.ErrSyntax", "internal/strconv.uint64pow10", "math/bits.deBruijn32tab", "math/bits.deBruijn64tab", "internal/bytealg.MaxLen"], apart := false, laid := [("math/bits.deBruijn32tab", laid_math_bits_deBruijn32tab), ("math/bits.deBruijn64tab", laid_math_bits_deBruijn64tab), ("internal/strconv.uint64pow10", laid_internal_strconv_uint64pow10), ("unicode/utf8.acceptRanges", laid_unicode_utf8_acceptRanges), ("strconv.ErrRange", laid_strconv_ErrRange), ("strconv.ErrSyntax", laid_strconv_ErrSyntax), ("unicode/utf8.first", laid_unicode_utf8_first)] }
def FieldLimitsSaid : Prop := fieldLimitsRow.holds Tryz.pinned (OpenSpec.ofChange fieldLimitsSpec)

/-- ITS FALSE NEIGHBOUR: 'it returns false'. Refute it at one input. -/
def fieldLimitsWrong : ChangeSpec := { name := "fieldLimits", fn := fun _ => fun
  | [d1, d2] => { results := [.lit (.bool false)], args := [d1, d2] }
  | _ => none }
def FieldLimitsWrongFalsely : Prop := fieldLimitsRow.holds Tryz.pinned (OpenSpec.ofChange fieldLimitsWrong)

/-- 'folkmootlaw1.FieldNests': WHATEVER THE INPUT: true; the input reads as it did. -/
def fieldNestsSpec : ChangeSpec := { name := "fieldNests", fn := fun _ => fun
  | [d1, d2] => { results := [.lit (.bool true)], args := [d1, d2] }
  | _ => none }
def fieldNestsRow : OpenClaim := { program := "ytgomondmogpkeaagreatdoor", sum := "cda5be9ba685a0941dc4d0fdf0bd00f6ddd9579a339e5ac19d16acfc27858ae3", func := "folkmoot/folkmootlaw1.FieldNests", spec := "fieldNests", inPlace := ["internal/abi.NoEscape", "internal/bytealg.IndexByteString", "internal/bytealg.IndexString", "internal/reflectlite.TypeOf", "internal/bytealg.MakeNoZero"], unfollowed := true, recurses := true, named := ["strconv.ErrRange", "unicode/utf8.first", "unicode/utf8.acceptRanges", "strconv.ErrSyntax", "internal/strconv.uint64pow10", "math/bits.deBruijn32tab", "math/bits.deBruijn64tab", "internal/bytealg.MaxLen"], apart := false, laid := [("math/bits.deBruijn32tab", laid_math_bits_deBruijn32tab), ("math/bits.deBruijn64tab", laid_math_bits_deBruijn64tab), ("internal/strconv.uint64pow10", laid_internal_strconv_uint64pow10), ("unicode/utf8.acceptRanges", laid_unicode_utf8_acceptRanges), ("strconv.ErrRange", laid_strconv_ErrRange), ("strconv.ErrSyntax", laid_strconv_ErrSyntax), ("unicode/utf8.first", laid_unicode_utf8_first)] }
def FieldNestsSaid : Prop := fieldNestsRow.holds Tryz.pinned (OpenSpec.ofChange fieldNestsSpec)

/-- ITS FALSE NEIGHBOUR: 'it returns false'. Refute it at one input. -/
def fieldNestsWrong : ChangeSpec := { name := "fieldNests", fn := fun _ => fun
  | [d1, d2] => { results := [.lit (.bool false)], args := [d1, d2] }
  | _ => none }
def FieldNestsWrongFalsely : Prop := fieldNestsRow.holds Tryz.pinned (OpenSpec.ofChange fieldNestsWrong)

/-- 'folkmootlaw1.FieldMaps': WHATEVER THE INPUT: true; the input reads as it did. -/
def fieldMapsSpec : ChangeSpec := { name := "fieldMaps", fn := fun _ => fun
  | [d] => { results := [.lit (.bool true)], args := [d] }
  | _ => none }
def fieldMapsRow : OpenClaim := { program := "ytgomondmogpkeaagreatdoor", sum := "cda5be9ba685a0941dc4d0fdf0bd00f6ddd9579a339e5ac19d16acfc27858ae3", func := "folkmoot/folkmootlaw1.FieldMaps", spec := "fieldMaps", inPlace := ["internal/abi.NoEscape", "internal/bytealg.IndexByteString", "internal/bytealg.IndexString", "internal/reflectlite.TypeOf", "internal/bytealg.MakeNoZero"], unfollowed := true, recurses := true, named := ["strconv.ErrRange", "unicode/utf8.first", "unicode/utf8.acceptRanges", "strconv.ErrSyntax", "internal/strconv.uint64pow10", "math/bits.deBruijn32tab", "math/bits.deBruijn64tab", "internal/bytealg.MaxLen"], apart := false, laid := [("math/bits.deBruijn32tab", laid_math_bits_deBruijn32tab), ("math/bits.deBruijn64tab", laid_math_bits_deBruijn64tab), ("internal/strconv.uint64pow10", laid_internal_strconv_uint64pow10), ("unicode/utf8.acceptRanges", laid_unicode_utf8_acceptRanges), ("strconv.ErrRange", laid_strconv_ErrRange), ("strconv.ErrSyntax", laid_strconv_ErrSyntax), ("unicode/utf8.first", laid_unicode_utf8_first)] }
def FieldMapsSaid : Prop := fieldMapsRow.holds Tryz.pinned (OpenSpec.ofChange fieldMapsSpec)

/-- ITS FALSE NEIGHBOUR: 'it returns false'. Refute it at one input. -/
def fieldMapsWrong : ChangeSpec := { name := "fieldMaps", fn := fun _ => fun
  | [d] => { results := [.lit (.bool false)], args := [d] }
  | _ => none }
def FieldMapsWrongFalsely : Prop := fieldMapsRow.holds Tryz.pinned (OpenSpec.ofChange fieldMapsWrong)

/-- 'folkmootlaw9.CmdAny': WHATEVER THE INPUT: true; the input reads as it did. -/
def cmdAnySpec : ChangeSpec := { name := "cmdAny", fn := fun _ => fun
  | [d1, d2] => { results := [.lit (.bool true)], args := [d1, d2] }
  | _ => none }
def cmdAnyRow : OpenClaim := { program := "ytgomondmogpkeaagreatdoor", sum := "cda5be9ba685a0941dc4d0fdf0bd00f6ddd9579a339e5ac19d16acfc27858ae3", func := "folkmoot/folkmootlaw9.CmdAny", spec := "cmdAny", inPlace := ["internal/bytealg.IndexByteString", "internal/bytealg.IndexString", "internal/reflectlite.TypeOf", "internal/abi.NoEscape", "internal/bytealg.MakeNoZero"], unfollowed := true, recurses := true, named := ["unicode/utf8.first", "unicode/utf8.acceptRanges", "internal/bytealg.MaxLen", "strconv.ErrRange", "strconv.ErrSyntax", "internal/strconv.uint64pow10", "math/bits.deBruijn32tab", "math/bits.deBruijn64tab"], apart := false, laid := [("math/bits.deBruijn32tab", laid_math_bits_deBruijn32tab), ("math/bits.deBruijn64tab", laid_math_bits_deBruijn64tab), ("internal/strconv.uint64pow10", laid_internal_strconv_uint64pow10), ("unicode/utf8.acceptRanges", laid_unicode_utf8_acceptRanges), ("strconv.ErrRange", laid_strconv_ErrRange), ("strconv.ErrSyntax", laid_strconv_ErrSyntax), ("unicode/utf8.first", laid_unicode_utf8_first)] }
def CmdAnySaid : Prop := cmdAnyRow.holds Tryz.pinned (OpenSpec.ofChange cmdAnySpec)

/-- ITS FALSE NEIGHBOUR: 'it returns false'. Refute it at one input. -/
def cmdAnyWrong : ChangeSpec := { name := "cmdAny", fn := fun _ => fun
  | [d1, d2] => { results := [.lit (.bool false)], args := [d1, d2] }
  | _ => none }
def CmdAnyWrongFalsely : Prop := cmdAnyRow.holds Tryz.pinned (OpenSpec.ofChange cmdAnyWrong)

/-- 'folkmootlaw9.CmdWords': WHATEVER THE INPUT: true; the input reads as it did. -/
def cmdWordsSpec : ChangeSpec := { name := "cmdWords", fn := fun _ => fun
  | [d] => { results := [.lit (.bool true)], args := [d] }
  | _ => none }
def cmdWordsRow : OpenClaim := { program := "ytgomondmogpkeaagreatdoor", sum := "cda5be9ba685a0941dc4d0fdf0bd00f6ddd9579a339e5ac19d16acfc27858ae3", func := "folkmoot/folkmootlaw9.CmdWords", spec := "cmdWords", inPlace := ["internal/bytealg.IndexByteString", "internal/bytealg.IndexString", "internal/reflectlite.TypeOf", "internal/abi.NoEscape", "internal/bytealg.MakeNoZero"], unfollowed := true, recurses := true, named := ["unicode/utf8.first", "unicode/utf8.acceptRanges", "internal/bytealg.MaxLen", "strconv.ErrRange", "strconv.ErrSyntax", "internal/strconv.uint64pow10", "math/bits.deBruijn32tab", "math/bits.deBruijn64tab"], apart := false, laid := [("math/bits.deBruijn32tab", laid_math_bits_deBruijn32tab), ("math/bits.deBruijn64tab", laid_math_bits_deBruijn64tab), ("internal/strconv.uint64pow10", laid_internal_strconv_uint64pow10), ("unicode/utf8.acceptRanges", laid_unicode_utf8_acceptRanges), ("strconv.ErrRange", laid_strconv_ErrRange), ("strconv.ErrSyntax", laid_strconv_ErrSyntax), ("unicode/utf8.first", laid_unicode_utf8_first)] }
def CmdWordsSaid : Prop := cmdWordsRow.holds Tryz.pinned (OpenSpec.ofChange cmdWordsSpec)

/-- ITS FALSE NEIGHBOUR: 'it returns false'. Refute it at one input. -/
def cmdWordsWrong : ChangeSpec := { name := "cmdWords", fn := fun _ => fun
  | [d] => { results := [.lit (.bool false)], args := [d] }
  | _ => none }
def CmdWordsWrongFalsely : Prop := cmdWordsRow.holds Tryz.pinned (OpenSpec.ofChange cmdWordsWrong)

/-- 'folkmootlaw9.CmdEdges': WHATEVER THE INPUT: true; the input reads as it did. -/
def cmdEdgesSpec : ChangeSpec := { name := "cmdEdges", fn := fun _ => fun
  | [d1, d2] => { results := [.lit (.bool true)], args := [d1, d2] }
  | _ => none }
def cmdEdgesRow : OpenClaim := { program := "ytgomondmogpkeaagreatdoor", sum := "cda5be9ba685a0941dc4d0fdf0bd00f6ddd9579a339e5ac19d16acfc27858ae3", func := "folkmoot/folkmootlaw9.CmdEdges", spec := "cmdEdges", inPlace := ["internal/bytealg.IndexByteString", "internal/bytealg.IndexString", "internal/reflectlite.TypeOf", "internal/abi.NoEscape", "internal/bytealg.MakeNoZero"], unfollowed := true, recurses := true, named := ["unicode/utf8.first", "unicode/utf8.acceptRanges", "internal/bytealg.MaxLen", "strconv.ErrRange", "strconv.ErrSyntax", "internal/strconv.uint64pow10", "math/bits.deBruijn32tab", "math/bits.deBruijn64tab"], apart := false, laid := [("math/bits.deBruijn32tab", laid_math_bits_deBruijn32tab), ("math/bits.deBruijn64tab", laid_math_bits_deBruijn64tab), ("internal/strconv.uint64pow10", laid_internal_strconv_uint64pow10), ("unicode/utf8.acceptRanges", laid_unicode_utf8_acceptRanges), ("strconv.ErrRange", laid_strconv_ErrRange), ("strconv.ErrSyntax", laid_strconv_ErrSyntax), ("unicode/utf8.first", laid_unicode_utf8_first)] }
def CmdEdgesSaid : Prop := cmdEdgesRow.holds Tryz.pinned (OpenSpec.ofChange cmdEdgesSpec)

/-- ITS FALSE NEIGHBOUR: 'it returns false'. Refute it at one input. -/
def cmdEdgesWrong : ChangeSpec := { name := "cmdEdges", fn := fun _ => fun
  | [d1, d2] => { results := [.lit (.bool false)], args := [d1, d2] }
  | _ => none }
def CmdEdgesWrongFalsely : Prop := cmdEdgesRow.holds Tryz.pinned (OpenSpec.ofChange cmdEdgesWrong)

/-- 'folkmootlaw9.CmdTells': WHATEVER THE INPUT: true; the input reads as it did. -/
def cmdTellsSpec : ChangeSpec := { name := "cmdTells", fn := fun _ => fun
  | [d1, d2] => { results := [.lit (.bool true)], args := [d1, d2] }
  | _ => none }
def cmdTellsRow : OpenClaim := { program := "ytgomondmogpkeaagreatdoor", sum := "cda5be9ba685a0941dc4d0fdf0bd00f6ddd9579a339e5ac19d16acfc27858ae3", func := "folkmoot/folkmootlaw9.CmdTells", spec := "cmdTells", inPlace := ["internal/bytealg.IndexByteString", "internal/bytealg.IndexString", "internal/reflectlite.TypeOf", "internal/abi.NoEscape", "internal/bytealg.MakeNoZero"], unfollowed := true, recurses := true, named := ["unicode/utf8.first", "unicode/utf8.acceptRanges", "internal/bytealg.MaxLen", "strconv.ErrRange", "strconv.ErrSyntax", "internal/strconv.uint64pow10", "math/bits.deBruijn32tab", "math/bits.deBruijn64tab"], apart := false, laid := [("math/bits.deBruijn32tab", laid_math_bits_deBruijn32tab), ("math/bits.deBruijn64tab", laid_math_bits_deBruijn64tab), ("internal/strconv.uint64pow10", laid_internal_strconv_uint64pow10), ("unicode/utf8.acceptRanges", laid_unicode_utf8_acceptRanges), ("strconv.ErrRange", laid_strconv_ErrRange), ("strconv.ErrSyntax", laid_strconv_ErrSyntax), ("unicode/utf8.first", laid_unicode_utf8_first)] }
def CmdTellsSaid : Prop := cmdTellsRow.holds Tryz.pinned (OpenSpec.ofChange cmdTellsSpec)

/-- ITS FALSE NEIGHBOUR: 'it returns false'. Refute it at one input. -/
def cmdTellsWrong : ChangeSpec := { name := "cmdTells", fn := fun _ => fun
  | [d1, d2] => { results := [.lit (.bool false)], args := [d1, d2] }
  | _ => none }
def CmdTellsWrongFalsely : Prop := cmdTellsRow.holds Tryz.pinned (OpenSpec.ofChange cmdTellsWrong)

/-- 'folkmootlaw9.CmdDigests': WHATEVER THE INPUT: true; the input reads as it did. -/
def cmdDigestsSpec : ChangeSpec := { name := "cmdDigests", fn := fun _ => fun
  | [d1, d2, d3] => { results := [.lit (.bool true)], args := [d1, d2, d3] }
  | _ => none }
def cmdDigestsRow : OpenClaim := { program := "ytgomondmogpkeaagreatdoor", sum := "cda5be9ba685a0941dc4d0fdf0bd00f6ddd9579a339e5ac19d16acfc27858ae3", func := "folkmoot/folkmootlaw9.CmdDigests", spec := "cmdDigests", inPlace := ["internal/bytealg.IndexByteString", "internal/bytealg.IndexString", "internal/reflectlite.TypeOf", "internal/abi.NoEscape", "internal/bytealg.MakeNoZero"], unfollowed := true, recurses := true, named := ["unicode/utf8.first", "unicode/utf8.acceptRanges", "internal/bytealg.MaxLen", "strconv.ErrRange", "strconv.ErrSyntax", "internal/strconv.uint64pow10", "math/bits.deBruijn32tab", "math/bits.deBruijn64tab"], apart := false, laid := [("math/bits.deBruijn32tab", laid_math_bits_deBruijn32tab), ("math/bits.deBruijn64tab", laid_math_bits_deBruijn64tab), ("internal/strconv.uint64pow10", laid_internal_strconv_uint64pow10), ("unicode/utf8.acceptRanges", laid_unicode_utf8_acceptRanges), ("strconv.ErrRange", laid_strconv_ErrRange), ("strconv.ErrSyntax", laid_strconv_ErrSyntax), ("unicode/utf8.first", laid_unicode_utf8_first)] }
def CmdDigestsSaid : Prop := cmdDigestsRow.holds Tryz.pinned (OpenSpec.ofChange cmdDigestsSpec)

/-- ITS FALSE NEIGHBOUR: 'it returns false'. Refute it at one input. -/
def cmdDigestsWrong : ChangeSpec := { name := "cmdDigests", fn := fun _ => fun
  | [d1, d2, d3] => { results := [.lit (.bool false)], args := [d1, d2, d3] }
  | _ => none }
def CmdDigestsWrongFalsely : Prop := cmdDigestsRow.holds Tryz.pinned (OpenSpec.ofChange cmdDigestsWrong)

/- THE SECOND FORM. 'bulk': how many values and letters a reading holds, each counted each time it is reached (what is shared counts as often as it is met; a slice's spare places count too). A statement '..UptoSaid' is the law's where the arguments, and the package variables that the reading takes, are together of bulk at most 1048576: NARROWER than '..Said'. Prove '..Said' where nothing that the law and all that it calls make is longer than what came in: it says more and counts as full. Else prove '..UptoSaid'. A law counts once. -/
mutual
def uptoBulk {H : Type} : DataW H → Nat
  | .lit (.string bytes) => bytes.length + 1
  | .lit _ => 1
  | .nil => 1
  | .ptr d => uptoBulk d + 1
  | .slice elems spare => uptoBulkAll elems + uptoBulkAll spare + 1
  | .agg parts => uptoBulkAll parts + 1
  | .iface _ d => uptoBulk d + 1
  | .map entries => uptoBulkEntries entries + 1
  | .held _ => 1
def uptoBulkAll {H : Type} : List (DataW H) → Nat
  | [] => 0
  | d :: r => uptoBulk d + uptoBulkAll r
def uptoBulkEntries {H : Type} : List (Lit × DataW H) → Nat
  | [] => 0
  | x :: r => uptoBulkEntry x + uptoBulkEntries r
def uptoBulkEntry {H : Type} : Lit × DataW H → Nat
  | (.string bytes, d) => bytes.length + uptoBulk d + 1
  | (_, d) => uptoBulk d + 1
 end
def uptoSmall : (H : Type) → List (DataW H) → Bool := fun _ ds => decide (uptoBulkAll ds ≤ 1048576)
def OpenSpec.upto (s : _root_.Go.ChangeSpec) : _root_.Go.OpenSpec := { _root_.Go.OpenSpec.ofChange s with cond := some uptoSmall }

/-- 'folkmootlaw1.FieldJoins', WHERE WHAT IT READS IS OF BULK AT MOST 1048576: true; the input reads as it did. -/
def fieldJoinsUptoRow : OpenClaim := { program := "ytgomondmogpkeaagreatdoor", sum := "cda5be9ba685a0941dc4d0fdf0bd00f6ddd9579a339e5ac19d16acfc27858ae3", func := "folkmoot/folkmootlaw1.FieldJoins", spec := "fieldJoins", inPlace := ["internal/abi.NoEscape", "internal/bytealg.IndexByteString", "internal/bytealg.IndexString", "internal/reflectlite.TypeOf", "internal/bytealg.MakeNoZero"], unfollowed := true, recurses := true, named := ["strconv.ErrRange", "unicode/utf8.first", "unicode/utf8.acceptRanges", "strconv.ErrSyntax", "internal/strconv.uint64pow10", "math/bits.deBruijn32tab", "math/bits.deBruijn64tab", "internal/bytealg.MaxLen"], apart := false, laid := [("math/bits.deBruijn32tab", laid_math_bits_deBruijn32tab), ("math/bits.deBruijn64tab", laid_math_bits_deBruijn64tab), ("internal/strconv.uint64pow10", laid_internal_strconv_uint64pow10), ("unicode/utf8.acceptRanges", laid_unicode_utf8_acceptRanges), ("strconv.ErrRange", laid_strconv_ErrRange), ("strconv.ErrSyntax", laid_strconv_ErrSyntax), ("unicode/utf8.first", laid_unicode_utf8_first)], narrowed := true }
def FieldJoinsUptoSaid : Prop := fieldJoinsUptoRow.holds Tryz.pinned (OpenSpec.upto fieldJoinsSpec)

/-- 'folkmootlaw1.FieldSplits', WHERE WHAT IT READS IS OF BULK AT MOST 1048576: true; the input reads as it did. -/
def fieldSplitsUptoRow : OpenClaim := { program := "ytgomondmogpkeaagreatdoor", sum := "cda5be9ba685a0941dc4d0fdf0bd00f6ddd9579a339e5ac19d16acfc27858ae3", func := "folkmoot/folkmootlaw1.FieldSplits", spec := "fieldSplits", inPlace := ["internal/abi.NoEscape", "internal/bytealg.IndexByteString", "internal/bytealg.IndexString", "internal/reflectlite.TypeOf", "internal/bytealg.MakeNoZero"], unfollowed := true, recurses := true, named := ["strconv.ErrRange", "unicode/utf8.first", "unicode/utf8.acceptRanges", "strconv.ErrSyntax", "internal/strconv.uint64pow10", "math/bits.deBruijn32tab", "math/bits.deBruijn64tab", "internal/bytealg.MaxLen"], apart := false, laid := [("math/bits.deBruijn32tab", laid_math_bits_deBruijn32tab), ("math/bits.deBruijn64tab", laid_math_bits_deBruijn64tab), ("internal/strconv.uint64pow10", laid_internal_strconv_uint64pow10), ("unicode/utf8.acceptRanges", laid_unicode_utf8_acceptRanges), ("strconv.ErrRange", laid_strconv_ErrRange), ("strconv.ErrSyntax", laid_strconv_ErrSyntax), ("unicode/utf8.first", laid_unicode_utf8_first)], narrowed := true }
def FieldSplitsUptoSaid : Prop := fieldSplitsUptoRow.holds Tryz.pinned (OpenSpec.upto fieldSplitsSpec)

/-- 'folkmootlaw1.FieldNums', WHERE WHAT IT READS IS OF BULK AT MOST 1048576: true; the input reads as it did. -/
def fieldNumsUptoRow : OpenClaim := { program := "ytgomondmogpkeaagreatdoor", sum := "cda5be9ba685a0941dc4d0fdf0bd00f6ddd9579a339e5ac19d16acfc27858ae3", func := "folkmoot/folkmootlaw1.FieldNums", spec := "fieldNums", inPlace := ["internal/abi.NoEscape", "internal/bytealg.IndexByteString", "internal/bytealg.IndexString", "internal/reflectlite.TypeOf", "internal/bytealg.MakeNoZero"], unfollowed := true, recurses := true, named := ["strconv.ErrRange", "unicode/utf8.first", "unicode/utf8.acceptRanges", "strconv.ErrSyntax", "internal/strconv.uint64pow10", "math/bits.deBruijn32tab", "math/bits.deBruijn64tab", "internal/bytealg.MaxLen"], apart := false, laid := [("math/bits.deBruijn32tab", laid_math_bits_deBruijn32tab), ("math/bits.deBruijn64tab", laid_math_bits_deBruijn64tab), ("internal/strconv.uint64pow10", laid_internal_strconv_uint64pow10), ("unicode/utf8.acceptRanges", laid_unicode_utf8_acceptRanges), ("strconv.ErrRange", laid_strconv_ErrRange), ("strconv.ErrSyntax", laid_strconv_ErrSyntax), ("unicode/utf8.first", laid_unicode_utf8_first)], narrowed := true }
def FieldNumsUptoSaid : Prop := fieldNumsUptoRow.holds Tryz.pinned (OpenSpec.upto fieldNumsSpec)

/-- 'folkmootlaw1.FieldLimits', WHERE WHAT IT READS IS OF BULK AT MOST 1048576: true; the input reads as it did. -/
def fieldLimitsUptoRow : OpenClaim := { program := "ytgomondmogpkeaagreatdoor", sum := "cda5be9ba685a0941dc4d0fdf0bd00f6ddd9579a339e5ac19d16acfc27858ae3", func := "folkmoot/folkmootlaw1.FieldLimits", spec := "fieldLimits", inPlace := ["internal/abi.NoEscape", "internal/bytealg.IndexByteString", "internal/bytealg.IndexString", "internal/reflectlite.TypeOf", "internal/bytealg.MakeNoZero"], unfollowed := true, recurses := true, named := ["strconv.ErrRange", "unicode/utf8.first", "unicode/utf8.acceptRanges", "strconv.ErrSyntax", "internal/strconv.uint64pow10", "math/bits.deBruijn32tab", "math/bits.deBruijn64tab", "internal/bytealg.MaxLen"], apart := false, laid := [("math/bits.deBruijn32tab", laid_math_bits_deBruijn32tab), ("math/bits.deBruijn64tab", laid_math_bits_deBruijn64tab), ("internal/strconv.uint64pow10", laid_internal_strconv_uint64pow10), ("unicode/utf8.acceptRanges", laid_unicode_utf8_acceptRanges), ("strconv.ErrRange", laid_strconv_ErrRange), ("strconv.ErrSyntax", laid_strconv_ErrSyntax), ("unicode/utf8.first", laid_unicode_utf8_first)], narrowed := true }
def FieldLimitsUptoSaid : Prop := fieldLimitsUptoRow.holds Tryz.pinned (OpenSpec.upto fieldLimitsSpec)

/-- 'folkmootlaw1.FieldNests', WHERE WHAT IT READS IS OF BULK AT MOST 1048576: true; the input reads as it did. -/
def fieldNestsUptoRow : OpenClaim := { program := "ytgomondmogpkeaagreatdoor", sum := "cda5be9ba685a0941dc4d0fdf0bd00f6ddd9579a339e5ac19d16acfc27858ae3", func := "folkmoot/folkmootlaw1.FieldNests", spec := "fieldNests", inPlace := ["internal/abi.NoEscape", "internal/bytealg.IndexByteString", "internal/bytealg.IndexString", "internal/reflectlite.TypeOf", "internal/bytealg.MakeNoZero"], unfollowed := true, recurses := true, named := ["strconv.ErrRange", "unicode/utf8.first", "unicode/utf8.acceptRanges", "strconv.ErrSyntax", "internal/strconv.uint64pow10", "math/bits.deBruijn32tab", "math/bits.deBruijn64tab", "internal/bytealg.MaxLen"], apart := false, laid := [("math/bits.deBruijn32tab", laid_math_bits_deBruijn32tab), ("math/bits.deBruijn64tab", laid_math_bits_deBruijn64tab), ("internal/strconv.uint64pow10", laid_internal_strconv_uint64pow10), ("unicode/utf8.acceptRanges", laid_unicode_utf8_acceptRanges), ("strconv.ErrRange", laid_strconv_ErrRange), ("strconv.ErrSyntax", laid_strconv_ErrSyntax), ("unicode/utf8.first", laid_unicode_utf8_first)], narrowed := true }
def FieldNestsUptoSaid : Prop := fieldNestsUptoRow.holds Tryz.pinned (OpenSpec.upto fieldNestsSpec)

/-- 'folkmootlaw1.FieldMaps', WHERE WHAT IT READS IS OF BULK AT MOST 1048576: true; the input reads as it did. -/
def fieldMapsUptoRow : OpenClaim := { program := "ytgomondmogpkeaagreatdoor", sum := "cda5be9ba685a0941dc4d0fdf0bd00f6ddd9579a339e5ac19d16acfc27858ae3", func := "folkmoot/folkmootlaw1.FieldMaps", spec := "fieldMaps", inPlace := ["internal/abi.NoEscape", "internal/bytealg.IndexByteString", "internal/bytealg.IndexString", "internal/reflectlite.TypeOf", "internal/bytealg.MakeNoZero"], unfollowed := true, recurses := true, named := ["strconv.ErrRange", "unicode/utf8.first", "unicode/utf8.acceptRanges", "strconv.ErrSyntax", "internal/strconv.uint64pow10", "math/bits.deBruijn32tab", "math/bits.deBruijn64tab", "internal/bytealg.MaxLen"], apart := false, laid := [("math/bits.deBruijn32tab", laid_math_bits_deBruijn32tab), ("math/bits.deBruijn64tab", laid_math_bits_deBruijn64tab), ("internal/strconv.uint64pow10", laid_internal_strconv_uint64pow10), ("unicode/utf8.acceptRanges", laid_unicode_utf8_acceptRanges), ("strconv.ErrRange", laid_strconv_ErrRange), ("strconv.ErrSyntax", laid_strconv_ErrSyntax), ("unicode/utf8.first", laid_unicode_utf8_first)], narrowed := true }
def FieldMapsUptoSaid : Prop := fieldMapsUptoRow.holds Tryz.pinned (OpenSpec.upto fieldMapsSpec)

/-- 'folkmootlaw9.CmdAny', WHERE WHAT IT READS IS OF BULK AT MOST 1048576: true; the input reads as it did. -/
def cmdAnyUptoRow : OpenClaim := { program := "ytgomondmogpkeaagreatdoor", sum := "cda5be9ba685a0941dc4d0fdf0bd00f6ddd9579a339e5ac19d16acfc27858ae3", func := "folkmoot/folkmootlaw9.CmdAny", spec := "cmdAny", inPlace := ["internal/bytealg.IndexByteString", "internal/bytealg.IndexString", "internal/reflectlite.TypeOf", "internal/abi.NoEscape", "internal/bytealg.MakeNoZero"], unfollowed := true, recurses := true, named := ["unicode/utf8.first", "unicode/utf8.acceptRanges", "internal/bytealg.MaxLen", "strconv.ErrRange", "strconv.ErrSyntax", "internal/strconv.uint64pow10", "math/bits.deBruijn32tab", "math/bits.deBruijn64tab"], apart := false, laid := [("math/bits.deBruijn32tab", laid_math_bits_deBruijn32tab), ("math/bits.deBruijn64tab", laid_math_bits_deBruijn64tab), ("internal/strconv.uint64pow10", laid_internal_strconv_uint64pow10), ("unicode/utf8.acceptRanges", laid_unicode_utf8_acceptRanges), ("strconv.ErrRange", laid_strconv_ErrRange), ("strconv.ErrSyntax", laid_strconv_ErrSyntax), ("unicode/utf8.first", laid_unicode_utf8_first)], narrowed := true }
def CmdAnyUptoSaid : Prop := cmdAnyUptoRow.holds Tryz.pinned (OpenSpec.upto cmdAnySpec)

/-- 'folkmootlaw9.CmdWords', WHERE WHAT IT READS IS OF BULK AT MOST 1048576: true; the input reads as it did. -/
def cmdWordsUptoRow : OpenClaim := { program := "ytgomondmogpkeaagreatdoor", sum := "cda5be9ba685a0941dc4d0fdf0bd00f6ddd9579a339e5ac19d16acfc27858ae3", func := "folkmoot/folkmootlaw9.CmdWords", spec := "cmdWords", inPlace := ["internal/bytealg.IndexByteString", "internal/bytealg.IndexString", "internal/reflectlite.TypeOf", "internal/abi.NoEscape", "internal/bytealg.MakeNoZero"], unfollowed := true, recurses := true, named := ["unicode/utf8.first", "unicode/utf8.acceptRanges", "internal/bytealg.MaxLen", "strconv.ErrRange", "strconv.ErrSyntax", "internal/strconv.uint64pow10", "math/bits.deBruijn32tab", "math/bits.deBruijn64tab"], apart := false, laid := [("math/bits.deBruijn32tab", laid_math_bits_deBruijn32tab), ("math/bits.deBruijn64tab", laid_math_bits_deBruijn64tab), ("internal/strconv.uint64pow10", laid_internal_strconv_uint64pow10), ("unicode/utf8.acceptRanges", laid_unicode_utf8_acceptRanges), ("strconv.ErrRange", laid_strconv_ErrRange), ("strconv.ErrSyntax", laid_strconv_ErrSyntax), ("unicode/utf8.first", laid_unicode_utf8_first)], narrowed := true }
def CmdWordsUptoSaid : Prop := cmdWordsUptoRow.holds Tryz.pinned (OpenSpec.upto cmdWordsSpec)

/-- 'folkmootlaw9.CmdEdges', WHERE WHAT IT READS IS OF BULK AT MOST 1048576: true; the input reads as it did. -/
def cmdEdgesUptoRow : OpenClaim := { program := "ytgomondmogpkeaagreatdoor", sum := "cda5be9ba685a0941dc4d0fdf0bd00f6ddd9579a339e5ac19d16acfc27858ae3", func := "folkmoot/folkmootlaw9.CmdEdges", spec := "cmdEdges", inPlace := ["internal/bytealg.IndexByteString", "internal/bytealg.IndexString", "internal/reflectlite.TypeOf", "internal/abi.NoEscape", "internal/bytealg.MakeNoZero"], unfollowed := true, recurses := true, named := ["unicode/utf8.first", "unicode/utf8.acceptRanges", "internal/bytealg.MaxLen", "strconv.ErrRange", "strconv.ErrSyntax", "internal/strconv.uint64pow10", "math/bits.deBruijn32tab", "math/bits.deBruijn64tab"], apart := false, laid := [("math/bits.deBruijn32tab", laid_math_bits_deBruijn32tab), ("math/bits.deBruijn64tab", laid_math_bits_deBruijn64tab), ("internal/strconv.uint64pow10", laid_internal_strconv_uint64pow10), ("unicode/utf8.acceptRanges", laid_unicode_utf8_acceptRanges), ("strconv.ErrRange", laid_strconv_ErrRange), ("strconv.ErrSyntax", laid_strconv_ErrSyntax), ("unicode/utf8.first", laid_unicode_utf8_first)], narrowed := true }
def CmdEdgesUptoSaid : Prop := cmdEdgesUptoRow.holds Tryz.pinned (OpenSpec.upto cmdEdgesSpec)

/-- 'folkmootlaw9.CmdTells', WHERE WHAT IT READS IS OF BULK AT MOST 1048576: true; the input reads as it did. -/
def cmdTellsUptoRow : OpenClaim := { program := "ytgomondmogpkeaagreatdoor", sum := "cda5be9ba685a0941dc4d0fdf0bd00f6ddd9579a339e5ac19d16acfc27858ae3", func := "folkmoot/folkmootlaw9.CmdTells", spec := "cmdTells", inPlace := ["internal/bytealg.IndexByteString", "internal/bytealg.IndexString", "internal/reflectlite.TypeOf", "internal/abi.NoEscape", "internal/bytealg.MakeNoZero"], unfollowed := true, recurses := true, named := ["unicode/utf8.first", "unicode/utf8.acceptRanges", "internal/bytealg.MaxLen", "strconv.ErrRange", "strconv.ErrSyntax", "internal/strconv.uint64pow10", "math/bits.deBruijn32tab", "math/bits.deBruijn64tab"], apart := false, laid := [("math/bits.deBruijn32tab", laid_math_bits_deBruijn32tab), ("math/bits.deBruijn64tab", laid_math_bits_deBruijn64tab), ("internal/strconv.uint64pow10", laid_internal_strconv_uint64pow10), ("unicode/utf8.acceptRanges", laid_unicode_utf8_acceptRanges), ("strconv.ErrRange", laid_strconv_ErrRange), ("strconv.ErrSyntax", laid_strconv_ErrSyntax), ("unicode/utf8.first", laid_unicode_utf8_first)], narrowed := true }
def CmdTellsUptoSaid : Prop := cmdTellsUptoRow.holds Tryz.pinned (OpenSpec.upto cmdTellsSpec)

/-- 'folkmootlaw9.CmdDigests', WHERE WHAT IT READS IS OF BULK AT MOST 1048576: true; the input reads as it did. -/
def cmdDigestsUptoRow : OpenClaim := { program := "ytgomondmogpkeaagreatdoor", sum := "cda5be9ba685a0941dc4d0fdf0bd00f6ddd9579a339e5ac19d16acfc27858ae3", func := "folkmoot/folkmootlaw9.CmdDigests", spec := "cmdDigests", inPlace := ["internal/bytealg.IndexByteString", "internal/bytealg.IndexString", "internal/reflectlite.TypeOf", "internal/abi.NoEscape", "internal/bytealg.MakeNoZero"], unfollowed := true, recurses := true, named := ["unicode/utf8.first", "unicode/utf8.acceptRanges", "internal/bytealg.MaxLen", "strconv.ErrRange", "strconv.ErrSyntax", "internal/strconv.uint64pow10", "math/bits.deBruijn32tab", "math/bits.deBruijn64tab"], apart := false, laid := [("math/bits.deBruijn32tab", laid_math_bits_deBruijn32tab), ("math/bits.deBruijn64tab", laid_math_bits_deBruijn64tab), ("internal/strconv.uint64pow10", laid_internal_strconv_uint64pow10), ("unicode/utf8.acceptRanges", laid_unicode_utf8_acceptRanges), ("strconv.ErrRange", laid_strconv_ErrRange), ("strconv.ErrSyntax", laid_strconv_ErrSyntax), ("unicode/utf8.first", laid_unicode_utf8_first)], narrowed := true }
def CmdDigestsUptoSaid : Prop := cmdDigestsUptoRow.holds Tryz.pinned (OpenSpec.upto cmdDigestsSpec)

end Rows
end Go.Proofs.YtgomondmogpkeaaGreatDoor
