/-
  NARROWER THAN 'FOR EVERY INPUT', by the rows' own cells (each row's printed sentence says how): OriginWhole: laid · OriginRanges: laid · OriginConditional: laid · OriginVariants: laid · OriginLimits: laid · OriginForms: laid · OriginHeads: laid · OriginMemory: laid · OriginTimes: laid.
  DERIVED. THE GIVEN ROWS OF THIS SEAT. 9 by the template 'for every input the law returns true; each argument reads behind the call as it read before'; 0 by the template 'total and deterministic' (their statements: YtmckbcbdnckngaaGreatDoorTotals.lean).
  GIVEN WITH THE SEED: the statements are not yours to turn. If you find one false, say at which input.
  Laid BY PROGRAM, IN A SANDBOX (cutbox-rows.mjs): the forced cells as the released guide's own fill.sh prints them over the translation 6b1e451bd5c33142… (all of the seat's roots in one cut). By AI agents, Wed Nov 11 2026. No macro, syntax, notation, axiom, sorry.
-/
import Derived.Test.YtmckbcbdnckngaaGreatDoorChecked
import GoSem.PinnedTables
import GoSem.Claim
import GoSem.ClaimJoined
import GoSem.ClaimMapViews
import Derived.JoinedTies
import Derived.KernelRfl
namespace Go.Proofs.YtmckbcbdnckngaaGreatDoor
/- THE CELL 'sum', in the pinned program and in every row, IS THE sha256 OF THE DUMP (.gsa) THAT YtmckbcbdnckngaaGreatDoorProg.lean LOADS. Nothing in Lean hashes anything: it is a label: what it is worth is what the hold of that sum in a sandbox is worth. -/
noncomputable def Tryz.pinned : Pinned := { name := "ytmckbcbdnckngaagreatdoor", sum := "6b1e451bd5c331421a21e301f257075e0ec676233d7ded28179da3f0076d3b5d", checked := Tryz.checked }
namespace Rows
def none {H : Type} : Left H := { results := [], args := [] }

/- WHAT THE LISTED PACKAGE-LEVEL VARIABLES READ AS WHEN THE CALL BEGINS. Each datum BY PROGRAM (the guide's laid-datum.mjs) off the statement by which the dump's own 'gosem.cut.vars' lays the variable. In a bare row this is a premise. The card (YtmckbcbdnckngaaGreatDoorCards.lean) ties it to the program's text. -/
def laid_math_bits_deBruijn32tab {H : Type} : DataW H := .agg [.lit (.int .u8 0), .lit (.int .u8 1), .lit (.int .u8 28), .lit (.int .u8 2), .lit (.int .u8 29), .lit (.int .u8 14), .lit (.int .u8 24), .lit (.int .u8 3), .lit (.int .u8 30), .lit (.int .u8 22), .lit (.int .u8 20), .lit (.int .u8 15), .lit (.int .u8 25), .lit (.int .u8 17), .lit (.int .u8 4), .lit (.int .u8 8), .lit (.int .u8 31), .lit (.int .u8 27), .lit (.int .u8 13), .lit (.int .u8 23), .lit (.int .u8 21), .lit (.int .u8 19), .lit (.int .u8 16), .lit (.int .u8 7), .lit (.int .u8 26), .lit (.int .u8 12), .lit (.int .u8 18), .lit (.int .u8 6), .lit (.int .u8 11), .lit (.int .u8 5), .lit (.int .u8 10), .lit (.int .u8 9)]
def laid_math_bits_deBruijn64tab {H : Type} : DataW H := .agg [.lit (.int .u8 0), .lit (.int .u8 1), .lit (.int .u8 56), .lit (.int .u8 2), .lit (.int .u8 57), .lit (.int .u8 49), .lit (.int .u8 28), .lit (.int .u8 3), .lit (.int .u8 61), .lit (.int .u8 58), .lit (.int .u8 42), .lit (.int .u8 50), .lit (.int .u8 38), .lit (.int .u8 29), .lit (.int .u8 17), .lit (.int .u8 4), .lit (.int .u8 62), .lit (.int .u8 47), .lit (.int .u8 59), .lit (.int .u8 36), .lit (.int .u8 45), .lit (.int .u8 43), .lit (.int .u8 51), .lit (.int .u8 22), .lit (.int .u8 53), .lit (.int .u8 39), .lit (.int .u8 33), .lit (.int .u8 30), .lit (.int .u8 24), .lit (.int .u8 18), .lit (.int .u8 12), .lit (.int .u8 5), .lit (.int .u8 63), .lit (.int .u8 55), .lit (.int .u8 48), .lit (.int .u8 27), .lit (.int .u8 60), .lit (.int .u8 41), .lit (.int .u8 37), .lit (.int .u8 16), .lit (.int .u8 46), .lit (.int .u8 35), .lit (.int .u8 44), .lit (.int .u8 21), .lit (.int .u8 52), .lit (.int .u8 32), .lit (.int .u8 23), .lit (.int .u8 11), .lit (.int .u8 54), .lit (.int .u8 26), .lit (.int .u8 40), .lit (.int .u8 15), .lit (.int .u8 34), .lit (.int .u8 20), .lit (.int .u8 31), .lit (.int .u8 10), .lit (.int .u8 25), .lit (.int .u8 14), .lit (.int .u8 19), .lit (.int .u8 9), .lit (.int .u8 13), .lit (.int .u8 8), .lit (.int .u8 7), .lit (.int .u8 6)]
def laid_internal_strconv_uint64pow10 {H : Type} : DataW H := .agg [.lit (.int .u64 1), .lit (.int .u64 10), .lit (.int .u64 100), .lit (.int .u64 1000), .lit (.int .u64 10000), .lit (.int .u64 100000), .lit (.int .u64 1000000), .lit (.int .u64 10000000), .lit (.int .u64 100000000), .lit (.int .u64 1000000000), .lit (.int .u64 10000000000), .lit (.int .u64 100000000000), .lit (.int .u64 1000000000000), .lit (.int .u64 10000000000000), .lit (.int .u64 100000000000000), .lit (.int .u64 1000000000000000), .lit (.int .u64 10000000000000000), .lit (.int .u64 100000000000000000), .lit (.int .u64 1000000000000000000), .lit (.int .u64 10000000000000000000)]
def laid_quayside_httpdate_weekdays {H : Type} : DataW H := .agg [.lit (.string [83, 117, 110]), .lit (.string [77, 111, 110]), .lit (.string [84, 117, 101]), .lit (.string [87, 101, 100]), .lit (.string [84, 104, 117]), .lit (.string [70, 114, 105]), .lit (.string [83, 97, 116])]
def laid_quayside_httpdate_months {H : Type} : DataW H := .agg [.lit (.string [74, 97, 110]), .lit (.string [70, 101, 98]), .lit (.string [77, 97, 114]), .lit (.string [65, 112, 114]), .lit (.string [77, 97, 121]), .lit (.string [74, 117, 110]), .lit (.string [74, 117, 108]), .lit (.string [65, 117, 103]), .lit (.string [83, 101, 112]), .lit (.string [79, 99, 116]), .lit (.string [78, 111, 118]), .lit (.string [68, 101, 99])]
def laid_quayside_httpdate_lengths {H : Type} : DataW H := .agg [.lit (.int .i64 31), .lit (.int .i64 28), .lit (.int .i64 31), .lit (.int .i64 30), .lit (.int .i64 31), .lit (.int .i64 30), .lit (.int .i64 31), .lit (.int .i64 31), .lit (.int .i64 30), .lit (.int .i64 31), .lit (.int .i64 30), .lit (.int .i64 31)]
def laid_unicode_utf8_acceptRanges {H : Type} : DataW H := .agg [.agg [.lit (.int .u8 128), .lit (.int .u8 191)], .agg [.lit (.int .u8 160), .lit (.int .u8 191)], .agg [.lit (.int .u8 128), .lit (.int .u8 159)], .agg [.lit (.int .u8 144), .lit (.int .u8 191)], .agg [.lit (.int .u8 128), .lit (.int .u8 143)], .agg [.lit (.int .u8 0), .lit (.int .u8 0)], .agg [.lit (.int .u8 0), .lit (.int .u8 0)], .agg [.lit (.int .u8 0), .lit (.int .u8 0)], .agg [.lit (.int .u8 0), .lit (.int .u8 0)], .agg [.lit (.int .u8 0), .lit (.int .u8 0)], .agg [.lit (.int .u8 0), .lit (.int .u8 0)], .agg [.lit (.int .u8 0), .lit (.int .u8 0)], .agg [.lit (.int .u8 0), .lit (.int .u8 0)], .agg [.lit (.int .u8 0), .lit (.int .u8 0)], .agg [.lit (.int .u8 0), .lit (.int .u8 0)], .agg [.lit (.int .u8 0), .lit (.int .u8 0)]]
/-- One of Go's own tables, pinned by name: the form's constant. -/
def laid_unicode_utf8_first : DataW Unit := Go.Pinned.utf8First

/-- 'quaysidelaw55.OriginWhole': WHATEVER THE INPUT: true; the input reads as it did. -/
def originWholeSpec : ChangeSpec := { name := "originWhole", fn := fun _ => fun
  | [d1, d2, d3] => { results := [.lit (.bool true)], args := [d1, d2, d3] }
  | _ => none }
def originWholeRow : OpenClaim := { program := "ytmckbcbdnckngaagreatdoor", sum := "6b1e451bd5c331421a21e301f257075e0ec676233d7ded28179da3f0076d3b5d", func := "quayside/quaysidelaw55.OriginWhole", spec := "originWhole", inPlace := ["internal/bytealg.IndexByteString", "internal/bytealg.CountString", "internal/bytealg.IndexString", "internal/abi.NoEscape", "internal/bytealg.MakeNoZero", "internal/reflectlite.TypeOf"], unfollowed := true, recurses := true, named := ["unicode/utf8.first", "unicode/utf8.acceptRanges", "internal/bytealg.MaxLen", "quayside/httpdate.months", "quayside/httpdate.lengths", "quayside/httpdate.weekdays", "internal/strconv.uint64pow10", "math/bits.deBruijn32tab", "math/bits.deBruijn64tab"], apart := false, laid := [("math/bits.deBruijn32tab", laid_math_bits_deBruijn32tab), ("math/bits.deBruijn64tab", laid_math_bits_deBruijn64tab), ("internal/strconv.uint64pow10", laid_internal_strconv_uint64pow10), ("quayside/httpdate.weekdays", laid_quayside_httpdate_weekdays), ("quayside/httpdate.months", laid_quayside_httpdate_months), ("quayside/httpdate.lengths", laid_quayside_httpdate_lengths), ("unicode/utf8.acceptRanges", laid_unicode_utf8_acceptRanges), ("unicode/utf8.first", laid_unicode_utf8_first)] }
def OriginWholeSaid : Prop := originWholeRow.holds Tryz.pinned (OpenSpec.ofChange originWholeSpec)

/-- ITS FALSE NEIGHBOUR: 'it returns false'. Refute it at one input. -/
def originWholeWrong : ChangeSpec := { name := "originWhole", fn := fun _ => fun
  | [d1, d2, d3] => { results := [.lit (.bool false)], args := [d1, d2, d3] }
  | _ => none }
def OriginWholeWrongFalsely : Prop := originWholeRow.holds Tryz.pinned (OpenSpec.ofChange originWholeWrong)

/-- 'quaysidelaw55.OriginRanges': WHATEVER THE INPUT: true; the input reads as it did. -/
def originRangesSpec : ChangeSpec := { name := "originRanges", fn := fun _ => fun
  | [d1, d2] => { results := [.lit (.bool true)], args := [d1, d2] }
  | _ => none }
def originRangesRow : OpenClaim := { program := "ytmckbcbdnckngaagreatdoor", sum := "6b1e451bd5c331421a21e301f257075e0ec676233d7ded28179da3f0076d3b5d", func := "quayside/quaysidelaw55.OriginRanges", spec := "originRanges", inPlace := ["internal/bytealg.IndexByteString", "internal/bytealg.CountString", "internal/bytealg.IndexString", "internal/abi.NoEscape", "internal/bytealg.MakeNoZero", "internal/reflectlite.TypeOf"], unfollowed := true, recurses := true, named := ["unicode/utf8.first", "unicode/utf8.acceptRanges", "internal/bytealg.MaxLen", "quayside/httpdate.months", "quayside/httpdate.lengths", "quayside/httpdate.weekdays", "internal/strconv.uint64pow10", "math/bits.deBruijn32tab", "math/bits.deBruijn64tab"], apart := false, laid := [("math/bits.deBruijn32tab", laid_math_bits_deBruijn32tab), ("math/bits.deBruijn64tab", laid_math_bits_deBruijn64tab), ("internal/strconv.uint64pow10", laid_internal_strconv_uint64pow10), ("quayside/httpdate.weekdays", laid_quayside_httpdate_weekdays), ("quayside/httpdate.months", laid_quayside_httpdate_months), ("quayside/httpdate.lengths", laid_quayside_httpdate_lengths), ("unicode/utf8.acceptRanges", laid_unicode_utf8_acceptRanges), ("unicode/utf8.first", laid_unicode_utf8_first)] }
def OriginRangesSaid : Prop := originRangesRow.holds Tryz.pinned (OpenSpec.ofChange originRangesSpec)

/-- ITS FALSE NEIGHBOUR: 'it returns false'. Refute it at one input. -/
def originRangesWrong : ChangeSpec := { name := "originRanges", fn := fun _ => fun
  | [d1, d2] => { results := [.lit (.bool false)], args := [d1, d2] }
  | _ => none }
def OriginRangesWrongFalsely : Prop := originRangesRow.holds Tryz.pinned (OpenSpec.ofChange originRangesWrong)

/-- 'quaysidelaw55.OriginConditional': WHATEVER THE INPUT: true; the input reads as it did. -/
def originConditionalSpec : ChangeSpec := { name := "originConditional", fn := fun _ => fun
  | [d1, d2, d3] => { results := [.lit (.bool true)], args := [d1, d2, d3] }
  | _ => none }
def originConditionalRow : OpenClaim := { program := "ytmckbcbdnckngaagreatdoor", sum := "6b1e451bd5c331421a21e301f257075e0ec676233d7ded28179da3f0076d3b5d", func := "quayside/quaysidelaw55.OriginConditional", spec := "originConditional", inPlace := ["internal/bytealg.IndexByteString", "internal/bytealg.CountString", "internal/bytealg.IndexString", "internal/abi.NoEscape", "internal/bytealg.MakeNoZero", "internal/reflectlite.TypeOf"], unfollowed := true, recurses := true, named := ["unicode/utf8.first", "unicode/utf8.acceptRanges", "internal/bytealg.MaxLen", "quayside/httpdate.months", "quayside/httpdate.lengths", "quayside/httpdate.weekdays", "internal/strconv.uint64pow10", "math/bits.deBruijn32tab", "math/bits.deBruijn64tab"], apart := false, laid := [("math/bits.deBruijn32tab", laid_math_bits_deBruijn32tab), ("math/bits.deBruijn64tab", laid_math_bits_deBruijn64tab), ("internal/strconv.uint64pow10", laid_internal_strconv_uint64pow10), ("quayside/httpdate.weekdays", laid_quayside_httpdate_weekdays), ("quayside/httpdate.months", laid_quayside_httpdate_months), ("quayside/httpdate.lengths", laid_quayside_httpdate_lengths), ("unicode/utf8.acceptRanges", laid_unicode_utf8_acceptRanges), ("unicode/utf8.first", laid_unicode_utf8_first)] }
def OriginConditionalSaid : Prop := originConditionalRow.holds Tryz.pinned (OpenSpec.ofChange originConditionalSpec)

/-- ITS FALSE NEIGHBOUR: 'it returns false'. Refute it at one input. -/
def originConditionalWrong : ChangeSpec := { name := "originConditional", fn := fun _ => fun
  | [d1, d2, d3] => { results := [.lit (.bool false)], args := [d1, d2, d3] }
  | _ => none }
def OriginConditionalWrongFalsely : Prop := originConditionalRow.holds Tryz.pinned (OpenSpec.ofChange originConditionalWrong)

/-- 'quaysidelaw55.OriginVariants': WHATEVER THE INPUT: true; the input reads as it did. -/
def originVariantsSpec : ChangeSpec := { name := "originVariants", fn := fun _ => fun
  | [d1, d2] => { results := [.lit (.bool true)], args := [d1, d2] }
  | _ => none }
def originVariantsRow : OpenClaim := { program := "ytmckbcbdnckngaagreatdoor", sum := "6b1e451bd5c331421a21e301f257075e0ec676233d7ded28179da3f0076d3b5d", func := "quayside/quaysidelaw55.OriginVariants", spec := "originVariants", inPlace := ["internal/bytealg.IndexByteString", "internal/bytealg.CountString", "internal/bytealg.IndexString", "internal/abi.NoEscape", "internal/bytealg.MakeNoZero", "internal/reflectlite.TypeOf"], unfollowed := true, recurses := true, named := ["unicode/utf8.first", "unicode/utf8.acceptRanges", "internal/bytealg.MaxLen", "quayside/httpdate.months", "quayside/httpdate.lengths", "quayside/httpdate.weekdays", "internal/strconv.uint64pow10", "math/bits.deBruijn32tab", "math/bits.deBruijn64tab"], apart := false, laid := [("math/bits.deBruijn32tab", laid_math_bits_deBruijn32tab), ("math/bits.deBruijn64tab", laid_math_bits_deBruijn64tab), ("internal/strconv.uint64pow10", laid_internal_strconv_uint64pow10), ("quayside/httpdate.weekdays", laid_quayside_httpdate_weekdays), ("quayside/httpdate.months", laid_quayside_httpdate_months), ("quayside/httpdate.lengths", laid_quayside_httpdate_lengths), ("unicode/utf8.acceptRanges", laid_unicode_utf8_acceptRanges), ("unicode/utf8.first", laid_unicode_utf8_first)] }
def OriginVariantsSaid : Prop := originVariantsRow.holds Tryz.pinned (OpenSpec.ofChange originVariantsSpec)

/-- ITS FALSE NEIGHBOUR: 'it returns false'. Refute it at one input. -/
def originVariantsWrong : ChangeSpec := { name := "originVariants", fn := fun _ => fun
  | [d1, d2] => { results := [.lit (.bool false)], args := [d1, d2] }
  | _ => none }
def OriginVariantsWrongFalsely : Prop := originVariantsRow.holds Tryz.pinned (OpenSpec.ofChange originVariantsWrong)

/-- 'quaysidelaw55.OriginLimits': WHATEVER THE INPUT: true; the input reads as it did. -/
def originLimitsSpec : ChangeSpec := { name := "originLimits", fn := fun _ => fun
  | [d] => { results := [.lit (.bool true)], args := [d] }
  | _ => none }
def originLimitsRow : OpenClaim := { program := "ytmckbcbdnckngaagreatdoor", sum := "6b1e451bd5c331421a21e301f257075e0ec676233d7ded28179da3f0076d3b5d", func := "quayside/quaysidelaw55.OriginLimits", spec := "originLimits", inPlace := ["internal/bytealg.IndexByteString", "internal/bytealg.CountString", "internal/bytealg.IndexString", "internal/abi.NoEscape", "internal/bytealg.MakeNoZero", "internal/reflectlite.TypeOf"], unfollowed := true, recurses := true, named := ["unicode/utf8.first", "unicode/utf8.acceptRanges", "internal/bytealg.MaxLen", "quayside/httpdate.months", "quayside/httpdate.lengths", "quayside/httpdate.weekdays", "internal/strconv.uint64pow10", "math/bits.deBruijn32tab", "math/bits.deBruijn64tab"], apart := false, laid := [("math/bits.deBruijn32tab", laid_math_bits_deBruijn32tab), ("math/bits.deBruijn64tab", laid_math_bits_deBruijn64tab), ("internal/strconv.uint64pow10", laid_internal_strconv_uint64pow10), ("quayside/httpdate.weekdays", laid_quayside_httpdate_weekdays), ("quayside/httpdate.months", laid_quayside_httpdate_months), ("quayside/httpdate.lengths", laid_quayside_httpdate_lengths), ("unicode/utf8.acceptRanges", laid_unicode_utf8_acceptRanges), ("unicode/utf8.first", laid_unicode_utf8_first)] }
def OriginLimitsSaid : Prop := originLimitsRow.holds Tryz.pinned (OpenSpec.ofChange originLimitsSpec)

/-- ITS FALSE NEIGHBOUR: 'it returns false'. Refute it at one input. -/
def originLimitsWrong : ChangeSpec := { name := "originLimits", fn := fun _ => fun
  | [d] => { results := [.lit (.bool false)], args := [d] }
  | _ => none }
def OriginLimitsWrongFalsely : Prop := originLimitsRow.holds Tryz.pinned (OpenSpec.ofChange originLimitsWrong)

/-- 'quaysidelaw55.OriginForms': WHATEVER THE INPUT: true; the input reads as it did. -/
def originFormsSpec : ChangeSpec := { name := "originForms", fn := fun _ => fun
  | [d1, d2] => { results := [.lit (.bool true)], args := [d1, d2] }
  | _ => none }
def originFormsRow : OpenClaim := { program := "ytmckbcbdnckngaagreatdoor", sum := "6b1e451bd5c331421a21e301f257075e0ec676233d7ded28179da3f0076d3b5d", func := "quayside/quaysidelaw55.OriginForms", spec := "originForms", inPlace := ["internal/bytealg.IndexByteString", "internal/bytealg.CountString", "internal/bytealg.IndexString", "internal/abi.NoEscape", "internal/bytealg.MakeNoZero", "internal/reflectlite.TypeOf"], unfollowed := true, recurses := true, named := ["unicode/utf8.first", "unicode/utf8.acceptRanges", "internal/bytealg.MaxLen", "quayside/httpdate.months", "quayside/httpdate.lengths", "quayside/httpdate.weekdays", "internal/strconv.uint64pow10", "math/bits.deBruijn32tab", "math/bits.deBruijn64tab"], apart := false, laid := [("math/bits.deBruijn32tab", laid_math_bits_deBruijn32tab), ("math/bits.deBruijn64tab", laid_math_bits_deBruijn64tab), ("internal/strconv.uint64pow10", laid_internal_strconv_uint64pow10), ("quayside/httpdate.weekdays", laid_quayside_httpdate_weekdays), ("quayside/httpdate.months", laid_quayside_httpdate_months), ("quayside/httpdate.lengths", laid_quayside_httpdate_lengths), ("unicode/utf8.acceptRanges", laid_unicode_utf8_acceptRanges), ("unicode/utf8.first", laid_unicode_utf8_first)] }
def OriginFormsSaid : Prop := originFormsRow.holds Tryz.pinned (OpenSpec.ofChange originFormsSpec)

/-- ITS FALSE NEIGHBOUR: 'it returns false'. Refute it at one input. -/
def originFormsWrong : ChangeSpec := { name := "originForms", fn := fun _ => fun
  | [d1, d2] => { results := [.lit (.bool false)], args := [d1, d2] }
  | _ => none }
def OriginFormsWrongFalsely : Prop := originFormsRow.holds Tryz.pinned (OpenSpec.ofChange originFormsWrong)

/-- 'quaysidelaw55.OriginHeads': WHATEVER THE INPUT: true; the input reads as it did. -/
def originHeadsSpec : ChangeSpec := { name := "originHeads", fn := fun _ => fun
  | [d1, d2, d3] => { results := [.lit (.bool true)], args := [d1, d2, d3] }
  | _ => none }
def originHeadsRow : OpenClaim := { program := "ytmckbcbdnckngaagreatdoor", sum := "6b1e451bd5c331421a21e301f257075e0ec676233d7ded28179da3f0076d3b5d", func := "quayside/quaysidelaw55.OriginHeads", spec := "originHeads", inPlace := ["internal/bytealg.IndexByteString", "internal/bytealg.IndexString", "internal/bytealg.CountString", "internal/abi.NoEscape", "internal/bytealg.MakeNoZero", "internal/reflectlite.TypeOf"], unfollowed := true, recurses := true, named := ["unicode/utf8.first", "unicode/utf8.acceptRanges", "internal/bytealg.MaxLen", "quayside/httpdate.months", "quayside/httpdate.lengths", "quayside/httpdate.weekdays", "internal/strconv.uint64pow10", "math/bits.deBruijn32tab", "math/bits.deBruijn64tab"], apart := false, laid := [("math/bits.deBruijn32tab", laid_math_bits_deBruijn32tab), ("math/bits.deBruijn64tab", laid_math_bits_deBruijn64tab), ("internal/strconv.uint64pow10", laid_internal_strconv_uint64pow10), ("quayside/httpdate.weekdays", laid_quayside_httpdate_weekdays), ("quayside/httpdate.months", laid_quayside_httpdate_months), ("quayside/httpdate.lengths", laid_quayside_httpdate_lengths), ("unicode/utf8.acceptRanges", laid_unicode_utf8_acceptRanges), ("unicode/utf8.first", laid_unicode_utf8_first)] }
def OriginHeadsSaid : Prop := originHeadsRow.holds Tryz.pinned (OpenSpec.ofChange originHeadsSpec)

/-- ITS FALSE NEIGHBOUR: 'it returns false'. Refute it at one input. -/
def originHeadsWrong : ChangeSpec := { name := "originHeads", fn := fun _ => fun
  | [d1, d2, d3] => { results := [.lit (.bool false)], args := [d1, d2, d3] }
  | _ => none }
def OriginHeadsWrongFalsely : Prop := originHeadsRow.holds Tryz.pinned (OpenSpec.ofChange originHeadsWrong)

/-- 'quaysidelaw55.OriginMemory': WHATEVER THE INPUT: true; the input reads as it did. -/
def originMemorySpec : ChangeSpec := { name := "originMemory", fn := fun _ => fun
  | [d] => { results := [.lit (.bool true)], args := [d] }
  | _ => none }
def originMemoryRow : OpenClaim := { program := "ytmckbcbdnckngaagreatdoor", sum := "6b1e451bd5c331421a21e301f257075e0ec676233d7ded28179da3f0076d3b5d", func := "quayside/quaysidelaw55.OriginMemory", spec := "originMemory", inPlace := ["internal/bytealg.IndexByteString", "internal/bytealg.CountString", "internal/bytealg.IndexString", "internal/abi.NoEscape", "internal/bytealg.MakeNoZero", "internal/reflectlite.TypeOf"], unfollowed := true, recurses := true, named := ["unicode/utf8.first", "unicode/utf8.acceptRanges", "internal/bytealg.MaxLen", "quayside/httpdate.months", "quayside/httpdate.lengths", "quayside/httpdate.weekdays", "internal/strconv.uint64pow10", "math/bits.deBruijn32tab", "math/bits.deBruijn64tab"], apart := false, laid := [("math/bits.deBruijn32tab", laid_math_bits_deBruijn32tab), ("math/bits.deBruijn64tab", laid_math_bits_deBruijn64tab), ("internal/strconv.uint64pow10", laid_internal_strconv_uint64pow10), ("quayside/httpdate.weekdays", laid_quayside_httpdate_weekdays), ("quayside/httpdate.months", laid_quayside_httpdate_months), ("quayside/httpdate.lengths", laid_quayside_httpdate_lengths), ("unicode/utf8.acceptRanges", laid_unicode_utf8_acceptRanges), ("unicode/utf8.first", laid_unicode_utf8_first)] }
def OriginMemorySaid : Prop := originMemoryRow.holds Tryz.pinned (OpenSpec.ofChange originMemorySpec)

/-- ITS FALSE NEIGHBOUR: 'it returns false'. Refute it at one input. -/
def originMemoryWrong : ChangeSpec := { name := "originMemory", fn := fun _ => fun
  | [d] => { results := [.lit (.bool false)], args := [d] }
  | _ => none }
def OriginMemoryWrongFalsely : Prop := originMemoryRow.holds Tryz.pinned (OpenSpec.ofChange originMemoryWrong)

/-- 'quaysidelaw55.OriginTimes': WHATEVER THE INPUT: true; the input reads as it did. -/
def originTimesSpec : ChangeSpec := { name := "originTimes", fn := fun _ => fun
  | [d1, d2, d3] => { results := [.lit (.bool true)], args := [d1, d2, d3] }
  | _ => none }
def originTimesRow : OpenClaim := { program := "ytmckbcbdnckngaagreatdoor", sum := "6b1e451bd5c331421a21e301f257075e0ec676233d7ded28179da3f0076d3b5d", func := "quayside/quaysidelaw55.OriginTimes", spec := "originTimes", inPlace := ["internal/bytealg.IndexByteString", "internal/bytealg.CountString", "internal/bytealg.IndexString", "internal/abi.NoEscape", "internal/bytealg.MakeNoZero", "internal/reflectlite.TypeOf"], unfollowed := true, recurses := true, named := ["unicode/utf8.first", "unicode/utf8.acceptRanges", "internal/bytealg.MaxLen", "quayside/httpdate.months", "quayside/httpdate.lengths", "quayside/httpdate.weekdays", "internal/strconv.uint64pow10", "math/bits.deBruijn32tab", "math/bits.deBruijn64tab"], apart := false, laid := [("math/bits.deBruijn32tab", laid_math_bits_deBruijn32tab), ("math/bits.deBruijn64tab", laid_math_bits_deBruijn64tab), ("internal/strconv.uint64pow10", laid_internal_strconv_uint64pow10), ("quayside/httpdate.weekdays", laid_quayside_httpdate_weekdays), ("quayside/httpdate.months", laid_quayside_httpdate_months), ("quayside/httpdate.lengths", laid_quayside_httpdate_lengths), ("unicode/utf8.acceptRanges", laid_unicode_utf8_acceptRanges), ("unicode/utf8.first", laid_unicode_utf8_first)] }
def OriginTimesSaid : Prop := originTimesRow.holds Tryz.pinned (OpenSpec.ofChange originTimesSpec)

/-- ITS FALSE NEIGHBOUR: 'it returns false'. Refute it at one input. -/
def originTimesWrong : ChangeSpec := { name := "originTimes", fn := fun _ => fun
  | [d1, d2, d3] => { results := [.lit (.bool false)], args := [d1, d2, d3] }
  | _ => none }
def OriginTimesWrongFalsely : Prop := originTimesRow.holds Tryz.pinned (OpenSpec.ofChange originTimesWrong)

/- THE SECOND FORM. 'bulk': how many values and letters a reading holds, each counted each time it is reached (what is shared counts as often as it is met; a slice's spare places count too). A statement '..UptoSaid' is the law's where the arguments, and the package variables that the reading takes, are together of bulk at most 1048576: NARROWER than '..Said'. Prove '..Said' where nothing that the law and all that it calls make is longer than what came in: it says more and counts as full. Else prove '..UptoSaid'. A law counts once. -/
mutual
def uptoBulk {H : Type} : DataW H → Nat
  | .lit (.string bytes) => bytes.length + 1
  | .lit _ => 1
  | .nil => 1
  | .ptr d => uptoBulk d + 1
  | .slice elems spare => uptoBulkAll elems + uptoBulkAll spare + 1
  | .agg parts => uptoBulkAll parts + 1
  | .iface _ d => uptoBulk d + 1
  | .map entries => uptoBulkEntries entries + 1
  | .held _ => 1
def uptoBulkAll {H : Type} : List (DataW H) → Nat
  | [] => 0
  | d :: r => uptoBulk d + uptoBulkAll r
def uptoBulkEntries {H : Type} : List (Lit × DataW H) → Nat
  | [] => 0
  | x :: r => uptoBulkEntry x + uptoBulkEntries r
def uptoBulkEntry {H : Type} : Lit × DataW H → Nat
  | (.string bytes, d) => bytes.length + uptoBulk d + 1
  | (_, d) => uptoBulk d + 1
 end
def uptoSmall : (H : Type) → List (DataW H) → Bool := fun _ ds => decide (uptoBulkAll ds ≤ 1048576)
def OpenSpec.upto (s : _root_.Go.ChangeSpec) : _root_.Go.OpenSpec := { _root_.Go.OpenSpec.ofChange s with cond := some uptoSmall }

/-- 'quaysidelaw55.OriginWhole', WHERE WHAT IT READS IS OF BULK AT MOST 1048576: true; the input reads as it did. -/
def originWholeUptoRow : OpenClaim := { program := "ytmckbcbdnckngaagreatdoor", sum := "6b1e451bd5c331421a21e301f257075e0ec676233d7ded28179da3f0076d3b5d", func := "quayside/quaysidelaw55.OriginWhole", spec := "originWhole", inPlace := ["internal/bytealg.IndexByteString", "internal/bytealg.CountString", "internal/bytealg.IndexString", "internal/abi.NoEscape", "internal/bytealg.MakeNoZero", "internal/reflectlite.TypeOf"], unfollowed := true, recurses := true, named := ["unicode/utf8.first", "unicode/utf8.acceptRanges", "internal/bytealg.MaxLen", "quayside/httpdate.months", "quayside/httpdate.lengths", "quayside/httpdate.weekdays", "internal/strconv.uint64pow10", "math/bits.deBruijn32tab", "math/bits.deBruijn64tab"], apart := false, laid := [("math/bits.deBruijn32tab", laid_math_bits_deBruijn32tab), ("math/bits.deBruijn64tab", laid_math_bits_deBruijn64tab), ("internal/strconv.uint64pow10", laid_internal_strconv_uint64pow10), ("quayside/httpdate.weekdays", laid_quayside_httpdate_weekdays), ("quayside/httpdate.months", laid_quayside_httpdate_months), ("quayside/httpdate.lengths", laid_quayside_httpdate_lengths), ("unicode/utf8.acceptRanges", laid_unicode_utf8_acceptRanges), ("unicode/utf8.first", laid_unicode_utf8_first)], narrowed := true }
def OriginWholeUptoSaid : Prop := originWholeUptoRow.holds Tryz.pinned (OpenSpec.upto originWholeSpec)

/-- 'quaysidelaw55.OriginRanges', WHERE WHAT IT READS IS OF BULK AT MOST 1048576: true; the input reads as it did. -/
def originRangesUptoRow : OpenClaim := { program := "ytmckbcbdnckngaagreatdoor", sum := "6b1e451bd5c331421a21e301f257075e0ec676233d7ded28179da3f0076d3b5d", func := "quayside/quaysidelaw55.OriginRanges", spec := "originRanges", inPlace := ["internal/bytealg.IndexByteString", "internal/bytealg.CountString", "internal/bytealg.IndexString", "internal/abi.NoEscape", "internal/bytealg.MakeNoZero", "internal/reflectlite.TypeOf"], unfollowed := true, recurses := true, named := ["unicode/utf8.first", "unicode/utf8.acceptRanges", "internal/bytealg.MaxLen", "quayside/httpdate.months", "quayside/httpdate.lengths", "quayside/httpdate.weekdays", "internal/strconv.uint64pow10", "math/bits.deBruijn32tab", "math/bits.deBruijn64tab"], apart := false, laid := [("math/bits.deBruijn32tab", laid_math_bits_deBruijn32tab), ("math/bits.deBruijn64tab", laid_math_bits_deBruijn64tab), ("internal/strconv.uint64pow10", laid_internal_strconv_uint64pow10), ("quayside/httpdate.weekdays", laid_quayside_httpdate_weekdays), ("quayside/httpdate.months", laid_quayside_httpdate_months), ("quayside/httpdate.lengths", laid_quayside_httpdate_lengths), ("unicode/utf8.acceptRanges", laid_unicode_utf8_acceptRanges), ("unicode/utf8.first", laid_unicode_utf8_first)], narrowed := true }
def OriginRangesUptoSaid : Prop := originRangesUptoRow.holds Tryz.pinned (OpenSpec.upto originRangesSpec)

/-- 'quaysidelaw55.OriginConditional', WHERE WHAT IT READS IS OF BULK AT MOST 1048576: true; the input reads as it did. -/
def originConditionalUptoRow : OpenClaim := { program := "ytmckbcbdnckngaagreatdoor", sum := "6b1e451bd5c331421a21e301f257075e0ec676233d7ded28179da3f0076d3b5d", func := "quayside/quaysidelaw55.OriginConditional", spec := "originConditional", inPlace := ["internal/bytealg.IndexByteString", "internal/bytealg.CountString", "internal/bytealg.IndexString", "internal/abi.NoEscape", "internal/bytealg.MakeNoZero", "internal/reflectlite.TypeOf"], unfollowed := true, recurses := true, named := ["unicode/utf8.first", "unicode/utf8.acceptRanges", "internal/bytealg.MaxLen", "quayside/httpdate.months", "quayside/httpdate.lengths", "quayside/httpdate.weekdays", "internal/strconv.uint64pow10", "math/bits.deBruijn32tab", "math/bits.deBruijn64tab"], apart := false, laid := [("math/bits.deBruijn32tab", laid_math_bits_deBruijn32tab), ("math/bits.deBruijn64tab", laid_math_bits_deBruijn64tab), ("internal/strconv.uint64pow10", laid_internal_strconv_uint64pow10), ("quayside/httpdate.weekdays", laid_quayside_httpdate_weekdays), ("quayside/httpdate.months", laid_quayside_httpdate_months), ("quayside/httpdate.lengths", laid_quayside_httpdate_lengths), ("unicode/utf8.acceptRanges", laid_unicode_utf8_acceptRanges), ("unicode/utf8.first", laid_unicode_utf8_first)], narrowed := true }
def OriginConditionalUptoSaid : Prop := originConditionalUptoRow.holds Tryz.pinned (OpenSpec.upto originConditionalSpec)

/-- 'quaysidelaw55.OriginVariants', WHERE WHAT IT READS IS OF BULK AT MOST 1048576: true; the input reads as it did. -/
def originVariantsUptoRow : OpenClaim := { program := "ytmckbcbdnckngaagreatdoor", sum := "6b1e451bd5c331421a21e301f257075e0ec676233d7ded28179da3f0076d3b5d", func := "quayside/quaysidelaw55.OriginVariants", spec := "originVariants", inPlace := ["internal/bytealg.IndexByteString", "internal/bytealg.CountString", "internal/bytealg.IndexString", "internal/abi.NoEscape", "internal/bytealg.MakeNoZero", "internal/reflectlite.TypeOf"], unfollowed := true, recurses := true, named := ["unicode/utf8.first", "unicode/utf8.acceptRanges", "internal/bytealg.MaxLen", "quayside/httpdate.months", "quayside/httpdate.lengths", "quayside/httpdate.weekdays", "internal/strconv.uint64pow10", "math/bits.deBruijn32tab", "math/bits.deBruijn64tab"], apart := false, laid := [("math/bits.deBruijn32tab", laid_math_bits_deBruijn32tab), ("math/bits.deBruijn64tab", laid_math_bits_deBruijn64tab), ("internal/strconv.uint64pow10", laid_internal_strconv_uint64pow10), ("quayside/httpdate.weekdays", laid_quayside_httpdate_weekdays), ("quayside/httpdate.months", laid_quayside_httpdate_months), ("quayside/httpdate.lengths", laid_quayside_httpdate_lengths), ("unicode/utf8.acceptRanges", laid_unicode_utf8_acceptRanges), ("unicode/utf8.first", laid_unicode_utf8_first)], narrowed := true }
def OriginVariantsUptoSaid : Prop := originVariantsUptoRow.holds Tryz.pinned (OpenSpec.upto originVariantsSpec)

/-- 'quaysidelaw55.OriginLimits', WHERE WHAT IT READS IS OF BULK AT MOST 1048576: true; the input reads as it did. -/
def originLimitsUptoRow : OpenClaim := { program := "ytmckbcbdnckngaagreatdoor", sum := "6b1e451bd5c331421a21e301f257075e0ec676233d7ded28179da3f0076d3b5d", func := "quayside/quaysidelaw55.OriginLimits", spec := "originLimits", inPlace := ["internal/bytealg.IndexByteString", "internal/bytealg.CountString", "internal/bytealg.IndexString", "internal/abi.NoEscape", "internal/bytealg.MakeNoZero", "internal/reflectlite.TypeOf"], unfollowed := true, recurses := true, named := ["unicode/utf8.first", "unicode/utf8.acceptRanges", "internal/bytealg.MaxLen", "quayside/httpdate.months", "quayside/httpdate.lengths", "quayside/httpdate.weekdays", "internal/strconv.uint64pow10", "math/bits.deBruijn32tab", "math/bits.deBruijn64tab"], apart := false, laid := [("math/bits.deBruijn32tab", laid_math_bits_deBruijn32tab), ("math/bits.deBruijn64tab", laid_math_bits_deBruijn64tab), ("internal/strconv.uint64pow10", laid_internal_strconv_uint64pow10), ("quayside/httpdate.weekdays", laid_quayside_httpdate_weekdays), ("quayside/httpdate.months", laid_quayside_httpdate_months), ("quayside/httpdate.lengths", laid_quayside_httpdate_lengths), ("unicode/utf8.acceptRanges", laid_unicode_utf8_acceptRanges), ("unicode/utf8.first", laid_unicode_utf8_first)], narrowed := true }
def OriginLimitsUptoSaid : Prop := originLimitsUptoRow.holds Tryz.pinned (OpenSpec.upto originLimitsSpec)

/-- 'quaysidelaw55.OriginForms', WHERE WHAT IT READS IS OF BULK AT MOST 1048576: true; the input reads as it did. -/
def originFormsUptoRow : OpenClaim := { program := "ytmckbcbdnckngaagreatdoor", sum := "6b1e451bd5c331421a21e301f257075e0ec676233d7ded28179da3f0076d3b5d", func := "quayside/quaysidelaw55.OriginForms", spec := "originForms", inPlace := ["internal/bytealg.IndexByteString", "internal/bytealg.CountString", "internal/bytealg.IndexString", "internal/abi.NoEscape", "internal/bytealg.MakeNoZero", "internal/reflectlite.TypeOf"], unfollowed := true, recurses := true, named := ["unicode/utf8.first", "unicode/utf8.acceptRanges", "internal/bytealg.MaxLen", "quayside/httpdate.months", "quayside/httpdate.lengths", "quayside/httpdate.weekdays", "internal/strconv.uint64pow10", "math/bits.deBruijn32tab", "math/bits.deBruijn64tab"], apart := false, laid := [("math/bits.deBruijn32tab", laid_math_bits_deBruijn32tab), ("math/bits.deBruijn64tab", laid_math_bits_deBruijn64tab), ("internal/strconv.uint64pow10", laid_internal_strconv_uint64pow10), ("quayside/httpdate.weekdays", laid_quayside_httpdate_weekdays), ("quayside/httpdate.months", laid_quayside_httpdate_months), ("quayside/httpdate.lengths", laid_quayside_httpdate_lengths), ("unicode/utf8.acceptRanges", laid_unicode_utf8_acceptRanges), ("unicode/utf8.first", laid_unicode_utf8_first)], narrowed := true }
def OriginFormsUptoSaid : Prop := originFormsUptoRow.holds Tryz.pinned (OpenSpec.upto originFormsSpec)

/-- 'quaysidelaw55.OriginHeads', WHERE WHAT IT READS IS OF BULK AT MOST 1048576: true; the input reads as it did. -/
def originHeadsUptoRow : OpenClaim := { program := "ytmckbcbdnckngaagreatdoor", sum := "6b1e451bd5c331421a21e301f257075e0ec676233d7ded28179da3f0076d3b5d", func := "quayside/quaysidelaw55.OriginHeads", spec := "originHeads", inPlace := ["internal/bytealg.IndexByteString", "internal/bytealg.IndexString", "internal/bytealg.CountString", "internal/abi.NoEscape", "internal/bytealg.MakeNoZero", "internal/reflectlite.TypeOf"], unfollowed := true, recurses := true, named := ["unicode/utf8.first", "unicode/utf8.acceptRanges", "internal/bytealg.MaxLen", "quayside/httpdate.months", "quayside/httpdate.lengths", "quayside/httpdate.weekdays", "internal/strconv.uint64pow10", "math/bits.deBruijn32tab", "math/bits.deBruijn64tab"], apart := false, laid := [("math/bits.deBruijn32tab", laid_math_bits_deBruijn32tab), ("math/bits.deBruijn64tab", laid_math_bits_deBruijn64tab), ("internal/strconv.uint64pow10", laid_internal_strconv_uint64pow10), ("quayside/httpdate.weekdays", laid_quayside_httpdate_weekdays), ("quayside/httpdate.months", laid_quayside_httpdate_months), ("quayside/httpdate.lengths", laid_quayside_httpdate_lengths), ("unicode/utf8.acceptRanges", laid_unicode_utf8_acceptRanges), ("unicode/utf8.first", laid_unicode_utf8_first)], narrowed := true }
def OriginHeadsUptoSaid : Prop := originHeadsUptoRow.holds Tryz.pinned (OpenSpec.upto originHeadsSpec)

/-- 'quaysidelaw55.OriginMemory', WHERE WHAT IT READS IS OF BULK AT MOST 1048576: true; the input reads as it did. -/
def originMemoryUptoRow : OpenClaim := { program := "ytmckbcbdnckngaagreatdoor", sum := "6b1e451bd5c331421a21e301f257075e0ec676233d7ded28179da3f0076d3b5d", func := "quayside/quaysidelaw55.OriginMemory", spec := "originMemory", inPlace := ["internal/bytealg.IndexByteString", "internal/bytealg.CountString", "internal/bytealg.IndexString", "internal/abi.NoEscape", "internal/bytealg.MakeNoZero", "internal/reflectlite.TypeOf"], unfollowed := true, recurses := true, named := ["unicode/utf8.first", "unicode/utf8.acceptRanges", "internal/bytealg.MaxLen", "quayside/httpdate.months", "quayside/httpdate.lengths", "quayside/httpdate.weekdays", "internal/strconv.uint64pow10", "math/bits.deBruijn32tab", "math/bits.deBruijn64tab"], apart := false, laid := [("math/bits.deBruijn32tab", laid_math_bits_deBruijn32tab), ("math/bits.deBruijn64tab", laid_math_bits_deBruijn64tab), ("internal/strconv.uint64pow10", laid_internal_strconv_uint64pow10), ("quayside/httpdate.weekdays", laid_quayside_httpdate_weekdays), ("quayside/httpdate.months", laid_quayside_httpdate_months), ("quayside/httpdate.lengths", laid_quayside_httpdate_lengths), ("unicode/utf8.acceptRanges", laid_unicode_utf8_acceptRanges), ("unicode/utf8.first", laid_unicode_utf8_first)], narrowed := true }
def OriginMemoryUptoSaid : Prop := originMemoryUptoRow.holds Tryz.pinned (OpenSpec.upto originMemorySpec)

/-- 'quaysidelaw55.OriginTimes', WHERE WHAT IT READS IS OF BULK AT MOST 1048576: true; the input reads as it did. -/
def originTimesUptoRow : OpenClaim := { program := "ytmckbcbdnckngaagreatdoor", sum := "6b1e451bd5c331421a21e301f257075e0ec676233d7ded28179da3f0076d3b5d", func := "quayside/quaysidelaw55.OriginTimes", spec := "originTimes", inPlace := ["internal/bytealg.IndexByteString", "internal/bytealg.CountString", "internal/bytealg.IndexString", "internal/abi.NoEscape", "internal/bytealg.MakeNoZero", "internal/reflectlite.TypeOf"], unfollowed := true, recurses := true, named := ["unicode/utf8.first", "unicode/utf8.acceptRanges", "internal/bytealg.MaxLen", "quayside/httpdate.months", "quayside/httpdate.lengths", "quayside/httpdate.weekdays", "internal/strconv.uint64pow10", "math/bits.deBruijn32tab", "math/bits.deBruijn64tab"], apart := false, laid := [("math/bits.deBruijn32tab", laid_math_bits_deBruijn32tab), ("math/bits.deBruijn64tab", laid_math_bits_deBruijn64tab), ("internal/strconv.uint64pow10", laid_internal_strconv_uint64pow10), ("quayside/httpdate.weekdays", laid_quayside_httpdate_weekdays), ("quayside/httpdate.months", laid_quayside_httpdate_months), ("quayside/httpdate.lengths", laid_quayside_httpdate_lengths), ("unicode/utf8.acceptRanges", laid_unicode_utf8_acceptRanges), ("unicode/utf8.first", laid_unicode_utf8_first)], narrowed := true }
def OriginTimesUptoSaid : Prop := originTimesUptoRow.holds Tryz.pinned (OpenSpec.upto originTimesSpec)

end Rows
end Go.Proofs.YtmckbcbdnckngaaGreatDoor
