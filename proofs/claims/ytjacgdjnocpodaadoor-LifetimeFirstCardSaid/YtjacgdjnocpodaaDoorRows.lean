/-
  NARROWER THAN 'FOR EVERY INPUT', by the rows' own cells (each row's printed sentence says how): LifetimeAllowances: laid · LifetimeBounds: laid · LifetimeDates: laid · LifetimeStrict: laid · LifetimeBroken: laid · LifetimeFirst: laid.
  DERIVED. THE GIVEN ROWS OF THIS SEAT. 6 by the template 'for every input the law returns true; each argument reads behind the call as it read before'; 0 by the template 'total and deterministic' (their statements: YtjacgdjnocpodaaDoorTotals.lean).
  GIVEN WITH THE SEED: the statements are not yours to turn. If you find one false, say at which input.
  Laid BY PROGRAM, IN A SANDBOX (cutbox-rows.mjs): the forced cells as the released guide's own fill.sh prints them over the translation 24f0064bdb7d97aa… (all of the seat's roots in one cut). By AI agents, Wed Nov 11 2026. No macro, syntax, notation, axiom, sorry.
-/
import Derived.Test.YtjacgdjnocpodaaDoorChecked
import GoSem.PinnedTables
import GoSem.Claim
import GoSem.ClaimJoined
import GoSem.ClaimMapViews
import Derived.JoinedTies
import Derived.KernelRfl
namespace Go.Proofs.YtjacgdjnocpodaaDoor
/- THE CELL 'sum', in the pinned program and in every row, IS THE sha256 OF THE DUMP (.gsa) THAT YtjacgdjnocpodaaDoorProg.lean LOADS. Nothing in Lean hashes anything: it is a label: what it is worth is what the hold of that sum in a sandbox is worth. -/
noncomputable def Tryd.pinned : Pinned := { name := "ytjacgdjnocpodaadoor", sum := "24f0064bdb7d97aaefd6de3b79eaadf814dd7b94b76a9b5a69643d914526ec21", checked := Tryd.checked }
namespace Rows
def none {H : Type} : Left H := { results := [], args := [] }

/- WHAT THE LISTED PACKAGE-LEVEL VARIABLES READ AS WHEN THE CALL BEGINS. Each datum BY PROGRAM (the guide's laid-datum.mjs) off the statement by which the dump's own 'gosem.cut.vars' lays the variable. In a bare row this is a premise. The card (YtjacgdjnocpodaaDoorCards.lean) ties it to the program's text. -/
def laid_quayside_httpdate_weekdays {H : Type} : DataW H := .agg [.lit (.string [83, 117, 110]), .lit (.string [77, 111, 110]), .lit (.string [84, 117, 101]), .lit (.string [87, 101, 100]), .lit (.string [84, 104, 117]), .lit (.string [70, 114, 105]), .lit (.string [83, 97, 116])]
def laid_quayside_httpdate_months {H : Type} : DataW H := .agg [.lit (.string [74, 97, 110]), .lit (.string [70, 101, 98]), .lit (.string [77, 97, 114]), .lit (.string [65, 112, 114]), .lit (.string [77, 97, 121]), .lit (.string [74, 117, 110]), .lit (.string [74, 117, 108]), .lit (.string [65, 117, 103]), .lit (.string [83, 101, 112]), .lit (.string [79, 99, 116]), .lit (.string [78, 111, 118]), .lit (.string [68, 101, 99])]
def laid_quayside_httpdate_lengths {H : Type} : DataW H := .agg [.lit (.int .i64 31), .lit (.int .i64 28), .lit (.int .i64 31), .lit (.int .i64 30), .lit (.int .i64 31), .lit (.int .i64 30), .lit (.int .i64 31), .lit (.int .i64 31), .lit (.int .i64 30), .lit (.int .i64 31), .lit (.int .i64 30), .lit (.int .i64 31)]
def laid_unicode_utf8_acceptRanges {H : Type} : DataW H := .agg [.agg [.lit (.int .u8 128), .lit (.int .u8 191)], .agg [.lit (.int .u8 160), .lit (.int .u8 191)], .agg [.lit (.int .u8 128), .lit (.int .u8 159)], .agg [.lit (.int .u8 144), .lit (.int .u8 191)], .agg [.lit (.int .u8 128), .lit (.int .u8 143)], .agg [.lit (.int .u8 0), .lit (.int .u8 0)], .agg [.lit (.int .u8 0), .lit (.int .u8 0)], .agg [.lit (.int .u8 0), .lit (.int .u8 0)], .agg [.lit (.int .u8 0), .lit (.int .u8 0)], .agg [.lit (.int .u8 0), .lit (.int .u8 0)], .agg [.lit (.int .u8 0), .lit (.int .u8 0)], .agg [.lit (.int .u8 0), .lit (.int .u8 0)], .agg [.lit (.int .u8 0), .lit (.int .u8 0)], .agg [.lit (.int .u8 0), .lit (.int .u8 0)], .agg [.lit (.int .u8 0), .lit (.int .u8 0)], .agg [.lit (.int .u8 0), .lit (.int .u8 0)]]
/-- One of Go's own tables, pinned by name: the form's constant. -/
def laid_unicode_utf8_first : DataW Unit := Go.Pinned.utf8First
def laid_math_bits_deBruijn32tab {H : Type} : DataW H := .agg [.lit (.int .u8 0), .lit (.int .u8 1), .lit (.int .u8 28), .lit (.int .u8 2), .lit (.int .u8 29), .lit (.int .u8 14), .lit (.int .u8 24), .lit (.int .u8 3), .lit (.int .u8 30), .lit (.int .u8 22), .lit (.int .u8 20), .lit (.int .u8 15), .lit (.int .u8 25), .lit (.int .u8 17), .lit (.int .u8 4), .lit (.int .u8 8), .lit (.int .u8 31), .lit (.int .u8 27), .lit (.int .u8 13), .lit (.int .u8 23), .lit (.int .u8 21), .lit (.int .u8 19), .lit (.int .u8 16), .lit (.int .u8 7), .lit (.int .u8 26), .lit (.int .u8 12), .lit (.int .u8 18), .lit (.int .u8 6), .lit (.int .u8 11), .lit (.int .u8 5), .lit (.int .u8 10), .lit (.int .u8 9)]
def laid_math_bits_deBruijn64tab {H : Type} : DataW H := .agg [.lit (.int .u8 0), .lit (.int .u8 1), .lit (.int .u8 56), .lit (.int .u8 2), .lit (.int .u8 57), .lit (.int .u8 49), .lit (.int .u8 28), .lit (.int .u8 3), .lit (.int .u8 61), .lit (.int .u8 58), .lit (.int .u8 42), .lit (.int .u8 50), .lit (.int .u8 38), .lit (.int .u8 29), .lit (.int .u8 17), .lit (.int .u8 4), .lit (.int .u8 62), .lit (.int .u8 47), .lit (.int .u8 59), .lit (.int .u8 36), .lit (.int .u8 45), .lit (.int .u8 43), .lit (.int .u8 51), .lit (.int .u8 22), .lit (.int .u8 53), .lit (.int .u8 39), .lit (.int .u8 33), .lit (.int .u8 30), .lit (.int .u8 24), .lit (.int .u8 18), .lit (.int .u8 12), .lit (.int .u8 5), .lit (.int .u8 63), .lit (.int .u8 55), .lit (.int .u8 48), .lit (.int .u8 27), .lit (.int .u8 60), .lit (.int .u8 41), .lit (.int .u8 37), .lit (.int .u8 16), .lit (.int .u8 46), .lit (.int .u8 35), .lit (.int .u8 44), .lit (.int .u8 21), .lit (.int .u8 52), .lit (.int .u8 32), .lit (.int .u8 23), .lit (.int .u8 11), .lit (.int .u8 54), .lit (.int .u8 26), .lit (.int .u8 40), .lit (.int .u8 15), .lit (.int .u8 34), .lit (.int .u8 20), .lit (.int .u8 31), .lit (.int .u8 10), .lit (.int .u8 25), .lit (.int .u8 14), .lit (.int .u8 19), .lit (.int .u8 9), .lit (.int .u8 13), .lit (.int .u8 8), .lit (.int .u8 7), .lit (.int .u8 6)]
def laid_internal_strconv_uint64pow10 {H : Type} : DataW H := .agg [.lit (.int .u64 1), .lit (.int .u64 10), .lit (.int .u64 100), .lit (.int .u64 1000), .lit (.int .u64 10000), .lit (.int .u64 100000), .lit (.int .u64 1000000), .lit (.int .u64 10000000), .lit (.int .u64 100000000), .lit (.int .u64 1000000000), .lit (.int .u64 10000000000), .lit (.int .u64 100000000000), .lit (.int .u64 1000000000000), .lit (.int .u64 10000000000000), .lit (.int .u64 100000000000000), .lit (.int .u64 1000000000000000), .lit (.int .u64 10000000000000000), .lit (.int .u64 100000000000000000), .lit (.int .u64 1000000000000000000), .lit (.int .u64 10000000000000000000)]

/-- 'quaysidelaw14.LifetimeAllowances': WHATEVER THE INPUT: true; the input reads as it did. -/
def lifetimeAllowancesSpec : ChangeSpec := { name := "lifetimeAllowances", fn := fun _ => fun
  | [d] => { results := [.lit (.bool true)], args := [d] }
  | _ => none }
def lifetimeAllowancesRow : OpenClaim := { program := "ytjacgdjnocpodaadoor", sum := "24f0064bdb7d97aaefd6de3b79eaadf814dd7b94b76a9b5a69643d914526ec21", func := "quayside/quaysidelaw14.LifetimeAllowances", spec := "lifetimeAllowances", inPlace := ["internal/bytealg.IndexByteString", "internal/bytealg.IndexString", "internal/abi.NoEscape", "internal/bytealg.MakeNoZero"], named := ["unicode/utf8.first", "unicode/utf8.acceptRanges", "internal/bytealg.MaxLen", "quayside/httpdate.months", "quayside/httpdate.lengths", "quayside/httpdate.weekdays"], apart := false, laid := [("quayside/httpdate.weekdays", laid_quayside_httpdate_weekdays), ("quayside/httpdate.months", laid_quayside_httpdate_months), ("quayside/httpdate.lengths", laid_quayside_httpdate_lengths), ("unicode/utf8.acceptRanges", laid_unicode_utf8_acceptRanges), ("unicode/utf8.first", laid_unicode_utf8_first)] }
def LifetimeAllowancesSaid : Prop := lifetimeAllowancesRow.holds Tryd.pinned (OpenSpec.ofChange lifetimeAllowancesSpec)

/-- ITS FALSE NEIGHBOUR: 'it returns false'. Refute it at one input. -/
def lifetimeAllowancesWrong : ChangeSpec := { name := "lifetimeAllowances", fn := fun _ => fun
  | [d] => { results := [.lit (.bool false)], args := [d] }
  | _ => none }
def LifetimeAllowancesWrongFalsely : Prop := lifetimeAllowancesRow.holds Tryd.pinned (OpenSpec.ofChange lifetimeAllowancesWrong)

/-- 'quaysidelaw14.LifetimeBounds': WHATEVER THE INPUT: true; the input reads as it did. -/
def lifetimeBoundsSpec : ChangeSpec := { name := "lifetimeBounds", fn := fun _ => fun
  | [d1, d2] => { results := [.lit (.bool true)], args := [d1, d2] }
  | _ => none }
def lifetimeBoundsRow : OpenClaim := { program := "ytjacgdjnocpodaadoor", sum := "24f0064bdb7d97aaefd6de3b79eaadf814dd7b94b76a9b5a69643d914526ec21", func := "quayside/quaysidelaw14.LifetimeBounds", spec := "lifetimeBounds", inPlace := ["internal/bytealg.IndexByteString", "internal/bytealg.IndexString", "internal/abi.NoEscape", "internal/bytealg.MakeNoZero"], named := ["unicode/utf8.first", "unicode/utf8.acceptRanges", "internal/bytealg.MaxLen", "quayside/httpdate.months", "quayside/httpdate.lengths", "quayside/httpdate.weekdays"], apart := false, laid := [("quayside/httpdate.weekdays", laid_quayside_httpdate_weekdays), ("quayside/httpdate.months", laid_quayside_httpdate_months), ("quayside/httpdate.lengths", laid_quayside_httpdate_lengths), ("unicode/utf8.acceptRanges", laid_unicode_utf8_acceptRanges), ("unicode/utf8.first", laid_unicode_utf8_first)] }
def LifetimeBoundsSaid : Prop := lifetimeBoundsRow.holds Tryd.pinned (OpenSpec.ofChange lifetimeBoundsSpec)

/-- ITS FALSE NEIGHBOUR: 'it returns false'. Refute it at one input. -/
def lifetimeBoundsWrong : ChangeSpec := { name := "lifetimeBounds", fn := fun _ => fun
  | [d1, d2] => { results := [.lit (.bool false)], args := [d1, d2] }
  | _ => none }
def LifetimeBoundsWrongFalsely : Prop := lifetimeBoundsRow.holds Tryd.pinned (OpenSpec.ofChange lifetimeBoundsWrong)

/-- 'quaysidelaw14.LifetimeDates': WHATEVER THE INPUT: true; the input reads as it did. -/
def lifetimeDatesSpec : ChangeSpec := { name := "lifetimeDates", fn := fun _ => fun
  | [d1, d2] => { results := [.lit (.bool true)], args := [d1, d2] }
  | _ => none }
def lifetimeDatesRow : OpenClaim := { program := "ytjacgdjnocpodaadoor", sum := "24f0064bdb7d97aaefd6de3b79eaadf814dd7b94b76a9b5a69643d914526ec21", func := "quayside/quaysidelaw14.LifetimeDates", spec := "lifetimeDates", inPlace := ["internal/bytealg.IndexByteString", "internal/bytealg.IndexString", "internal/abi.NoEscape", "internal/bytealg.MakeNoZero"], named := ["quayside/httpdate.weekdays", "quayside/httpdate.months", "quayside/httpdate.lengths", "unicode/utf8.first", "unicode/utf8.acceptRanges", "internal/bytealg.MaxLen"], apart := false, laid := [("quayside/httpdate.weekdays", laid_quayside_httpdate_weekdays), ("quayside/httpdate.months", laid_quayside_httpdate_months), ("quayside/httpdate.lengths", laid_quayside_httpdate_lengths), ("unicode/utf8.acceptRanges", laid_unicode_utf8_acceptRanges), ("unicode/utf8.first", laid_unicode_utf8_first)] }
def LifetimeDatesSaid : Prop := lifetimeDatesRow.holds Tryd.pinned (OpenSpec.ofChange lifetimeDatesSpec)

/-- ITS FALSE NEIGHBOUR: 'it returns false'. Refute it at one input. -/
def lifetimeDatesWrong : ChangeSpec := { name := "lifetimeDates", fn := fun _ => fun
  | [d1, d2] => { results := [.lit (.bool false)], args := [d1, d2] }
  | _ => none }
def LifetimeDatesWrongFalsely : Prop := lifetimeDatesRow.holds Tryd.pinned (OpenSpec.ofChange lifetimeDatesWrong)

/-- 'quaysidelaw14.LifetimeStrict': WHATEVER THE INPUT: true; the input reads as it did. -/
def lifetimeStrictSpec : ChangeSpec := { name := "lifetimeStrict", fn := fun _ => fun
  | [d1, d2] => { results := [.lit (.bool true)], args := [d1, d2] }
  | _ => none }
def lifetimeStrictRow : OpenClaim := { program := "ytjacgdjnocpodaadoor", sum := "24f0064bdb7d97aaefd6de3b79eaadf814dd7b94b76a9b5a69643d914526ec21", func := "quayside/quaysidelaw14.LifetimeStrict", spec := "lifetimeStrict", inPlace := ["internal/bytealg.IndexByteString", "internal/bytealg.IndexString", "internal/abi.NoEscape", "internal/bytealg.MakeNoZero"], named := ["unicode/utf8.first", "unicode/utf8.acceptRanges", "internal/bytealg.MaxLen", "quayside/httpdate.months", "quayside/httpdate.lengths", "quayside/httpdate.weekdays"], apart := false, laid := [("quayside/httpdate.weekdays", laid_quayside_httpdate_weekdays), ("quayside/httpdate.months", laid_quayside_httpdate_months), ("quayside/httpdate.lengths", laid_quayside_httpdate_lengths), ("unicode/utf8.acceptRanges", laid_unicode_utf8_acceptRanges), ("unicode/utf8.first", laid_unicode_utf8_first)] }
def LifetimeStrictSaid : Prop := lifetimeStrictRow.holds Tryd.pinned (OpenSpec.ofChange lifetimeStrictSpec)

/-- ITS FALSE NEIGHBOUR: 'it returns false'. Refute it at one input. -/
def lifetimeStrictWrong : ChangeSpec := { name := "lifetimeStrict", fn := fun _ => fun
  | [d1, d2] => { results := [.lit (.bool false)], args := [d1, d2] }
  | _ => none }
def LifetimeStrictWrongFalsely : Prop := lifetimeStrictRow.holds Tryd.pinned (OpenSpec.ofChange lifetimeStrictWrong)

/-- 'quaysidelaw14.LifetimeBroken': WHATEVER THE INPUT: true; the input reads as it did. -/
def lifetimeBrokenSpec : ChangeSpec := { name := "lifetimeBroken", fn := fun _ => fun
  | [d1, d2, d3] => { results := [.lit (.bool true)], args := [d1, d2, d3] }
  | _ => none }
def lifetimeBrokenRow : OpenClaim := { program := "ytjacgdjnocpodaadoor", sum := "24f0064bdb7d97aaefd6de3b79eaadf814dd7b94b76a9b5a69643d914526ec21", func := "quayside/quaysidelaw14.LifetimeBroken", spec := "lifetimeBroken", inPlace := ["internal/bytealg.IndexByteString", "internal/bytealg.IndexString", "internal/abi.NoEscape", "internal/bytealg.MakeNoZero"], named := ["quayside/httpdate.weekdays", "quayside/httpdate.months", "quayside/httpdate.lengths", "unicode/utf8.first", "unicode/utf8.acceptRanges", "internal/bytealg.MaxLen"], apart := false, laid := [("quayside/httpdate.weekdays", laid_quayside_httpdate_weekdays), ("quayside/httpdate.months", laid_quayside_httpdate_months), ("quayside/httpdate.lengths", laid_quayside_httpdate_lengths), ("unicode/utf8.acceptRanges", laid_unicode_utf8_acceptRanges), ("unicode/utf8.first", laid_unicode_utf8_first)] }
def LifetimeBrokenSaid : Prop := lifetimeBrokenRow.holds Tryd.pinned (OpenSpec.ofChange lifetimeBrokenSpec)

/-- ITS FALSE NEIGHBOUR: 'it returns false'. Refute it at one input. -/
def lifetimeBrokenWrong : ChangeSpec := { name := "lifetimeBroken", fn := fun _ => fun
  | [d1, d2, d3] => { results := [.lit (.bool false)], args := [d1, d2, d3] }
  | _ => none }
def LifetimeBrokenWrongFalsely : Prop := lifetimeBrokenRow.holds Tryd.pinned (OpenSpec.ofChange lifetimeBrokenWrong)

/-- 'quaysidelaw14.LifetimeFirst': WHATEVER THE INPUT: true; the input reads as it did. -/
def lifetimeFirstSpec : ChangeSpec := { name := "lifetimeFirst", fn := fun _ => fun
  | [d1, d2, d3] => { results := [.lit (.bool true)], args := [d1, d2, d3] }
  | _ => none }
def lifetimeFirstRow : OpenClaim := { program := "ytjacgdjnocpodaadoor", sum := "24f0064bdb7d97aaefd6de3b79eaadf814dd7b94b76a9b5a69643d914526ec21", func := "quayside/quaysidelaw14.LifetimeFirst", spec := "lifetimeFirst", inPlace := ["internal/bytealg.IndexByteString", "internal/bytealg.IndexString", "internal/abi.NoEscape", "internal/bytealg.MakeNoZero"], named := ["quayside/httpdate.weekdays", "quayside/httpdate.months", "quayside/httpdate.lengths", "unicode/utf8.first", "unicode/utf8.acceptRanges", "internal/bytealg.MaxLen", "internal/strconv.uint64pow10", "math/bits.deBruijn32tab", "math/bits.deBruijn64tab"], apart := false, laid := [("math/bits.deBruijn32tab", laid_math_bits_deBruijn32tab), ("math/bits.deBruijn64tab", laid_math_bits_deBruijn64tab), ("internal/strconv.uint64pow10", laid_internal_strconv_uint64pow10), ("quayside/httpdate.weekdays", laid_quayside_httpdate_weekdays), ("quayside/httpdate.months", laid_quayside_httpdate_months), ("quayside/httpdate.lengths", laid_quayside_httpdate_lengths), ("unicode/utf8.acceptRanges", laid_unicode_utf8_acceptRanges), ("unicode/utf8.first", laid_unicode_utf8_first)] }
def LifetimeFirstSaid : Prop := lifetimeFirstRow.holds Tryd.pinned (OpenSpec.ofChange lifetimeFirstSpec)

/-- ITS FALSE NEIGHBOUR: 'it returns false'. Refute it at one input. -/
def lifetimeFirstWrong : ChangeSpec := { name := "lifetimeFirst", fn := fun _ => fun
  | [d1, d2, d3] => { results := [.lit (.bool false)], args := [d1, d2, d3] }
  | _ => none }
def LifetimeFirstWrongFalsely : Prop := lifetimeFirstRow.holds Tryd.pinned (OpenSpec.ofChange lifetimeFirstWrong)

/- THE SECOND FORM. 'bulk': how many values and letters a reading holds, each counted each time it is reached (what is shared counts as often as it is met; a slice's spare places count too). A statement '..UptoSaid' is the law's where the arguments, and the package variables that the reading takes, are together of bulk at most 1048576: NARROWER than '..Said'. Prove '..Said' where nothing that the law and all that it calls make is longer than what came in: it says more and counts as full. Else prove '..UptoSaid'. A law counts once. -/
mutual
def uptoBulk {H : Type} : DataW H → Nat
  | .lit (.string bytes) => bytes.length + 1
  | .lit _ => 1
  | .nil => 1
  | .ptr d => uptoBulk d + 1
  | .slice elems spare => uptoBulkAll elems + uptoBulkAll spare + 1
  | .agg parts => uptoBulkAll parts + 1
  | .iface _ d => uptoBulk d + 1
  | .map entries => uptoBulkEntries entries + 1
  | .held _ => 1
def uptoBulkAll {H : Type} : List (DataW H) → Nat
  | [] => 0
  | d :: r => uptoBulk d + uptoBulkAll r
def uptoBulkEntries {H : Type} : List (Lit × DataW H) → Nat
  | [] => 0
  | x :: r => uptoBulkEntry x + uptoBulkEntries r
def uptoBulkEntry {H : Type} : Lit × DataW H → Nat
  | (.string bytes, d) => bytes.length + uptoBulk d + 1
  | (_, d) => uptoBulk d + 1
 end
def uptoSmall : (H : Type) → List (DataW H) → Bool := fun _ ds => decide (uptoBulkAll ds ≤ 1048576)
def OpenSpec.upto (s : _root_.Go.ChangeSpec) : _root_.Go.OpenSpec := { _root_.Go.OpenSpec.ofChange s with cond := some uptoSmall }

/-- 'quaysidelaw14.LifetimeAllowances', WHERE WHAT IT READS IS OF BULK AT MOST 1048576: true; the input reads as it did. -/
def lifetimeAllowancesUptoRow : OpenClaim := { program := "ytjacgdjnocpodaadoor", sum := "24f0064bdb7d97aaefd6de3b79eaadf814dd7b94b76a9b5a69643d914526ec21", func := "quayside/quaysidelaw14.LifetimeAllowances", spec := "lifetimeAllowances", inPlace := ["internal/bytealg.IndexByteString", "internal/bytealg.IndexString", "internal/abi.NoEscape", "internal/bytealg.MakeNoZero"], named := ["unicode/utf8.first", "unicode/utf8.acceptRanges", "internal/bytealg.MaxLen", "quayside/httpdate.months", "quayside/httpdate.lengths", "quayside/httpdate.weekdays"], apart := false, laid := [("quayside/httpdate.weekdays", laid_quayside_httpdate_weekdays), ("quayside/httpdate.months", laid_quayside_httpdate_months), ("quayside/httpdate.lengths", laid_quayside_httpdate_lengths), ("unicode/utf8.acceptRanges", laid_unicode_utf8_acceptRanges), ("unicode/utf8.first", laid_unicode_utf8_first)], narrowed := true }
def LifetimeAllowancesUptoSaid : Prop := lifetimeAllowancesUptoRow.holds Tryd.pinned (OpenSpec.upto lifetimeAllowancesSpec)

/-- 'quaysidelaw14.LifetimeBounds', WHERE WHAT IT READS IS OF BULK AT MOST 1048576: true; the input reads as it did. -/
def lifetimeBoundsUptoRow : OpenClaim := { program := "ytjacgdjnocpodaadoor", sum := "24f0064bdb7d97aaefd6de3b79eaadf814dd7b94b76a9b5a69643d914526ec21", func := "quayside/quaysidelaw14.LifetimeBounds", spec := "lifetimeBounds", inPlace := ["internal/bytealg.IndexByteString", "internal/bytealg.IndexString", "internal/abi.NoEscape", "internal/bytealg.MakeNoZero"], named := ["unicode/utf8.first", "unicode/utf8.acceptRanges", "internal/bytealg.MaxLen", "quayside/httpdate.months", "quayside/httpdate.lengths", "quayside/httpdate.weekdays"], apart := false, laid := [("quayside/httpdate.weekdays", laid_quayside_httpdate_weekdays), ("quayside/httpdate.months", laid_quayside_httpdate_months), ("quayside/httpdate.lengths", laid_quayside_httpdate_lengths), ("unicode/utf8.acceptRanges", laid_unicode_utf8_acceptRanges), ("unicode/utf8.first", laid_unicode_utf8_first)], narrowed := true }
def LifetimeBoundsUptoSaid : Prop := lifetimeBoundsUptoRow.holds Tryd.pinned (OpenSpec.upto lifetimeBoundsSpec)

/-- 'quaysidelaw14.LifetimeDates', WHERE WHAT IT READS IS OF BULK AT MOST 1048576: true; the input reads as it did. -/
def lifetimeDatesUptoRow : OpenClaim := { program := "ytjacgdjnocpodaadoor", sum := "24f0064bdb7d97aaefd6de3b79eaadf814dd7b94b76a9b5a69643d914526ec21", func := "quayside/quaysidelaw14.LifetimeDates", spec := "lifetimeDates", inPlace := ["internal/bytealg.IndexByteString", "internal/bytealg.IndexString", "internal/abi.NoEscape", "internal/bytealg.MakeNoZero"], named := ["quayside/httpdate.weekdays", "quayside/httpdate.months", "quayside/httpdate.lengths", "unicode/utf8.first", "unicode/utf8.acceptRanges", "internal/bytealg.MaxLen"], apart := false, laid := [("quayside/httpdate.weekdays", laid_quayside_httpdate_weekdays), ("quayside/httpdate.months", laid_quayside_httpdate_months), ("quayside/httpdate.lengths", laid_quayside_httpdate_lengths), ("unicode/utf8.acceptRanges", laid_unicode_utf8_acceptRanges), ("unicode/utf8.first", laid_unicode_utf8_first)], narrowed := true }
def LifetimeDatesUptoSaid : Prop := lifetimeDatesUptoRow.holds Tryd.pinned (OpenSpec.upto lifetimeDatesSpec)

/-- 'quaysidelaw14.LifetimeStrict', WHERE WHAT IT READS IS OF BULK AT MOST 1048576: true; the input reads as it did. -/
def lifetimeStrictUptoRow : OpenClaim := { program := "ytjacgdjnocpodaadoor", sum := "24f0064bdb7d97aaefd6de3b79eaadf814dd7b94b76a9b5a69643d914526ec21", func := "quayside/quaysidelaw14.LifetimeStrict", spec := "lifetimeStrict", inPlace := ["internal/bytealg.IndexByteString", "internal/bytealg.IndexString", "internal/abi.NoEscape", "internal/bytealg.MakeNoZero"], named := ["unicode/utf8.first", "unicode/utf8.acceptRanges", "internal/bytealg.MaxLen", "quayside/httpdate.months", "quayside/httpdate.lengths", "quayside/httpdate.weekdays"], apart := false, laid := [("quayside/httpdate.weekdays", laid_quayside_httpdate_weekdays), ("quayside/httpdate.months", laid_quayside_httpdate_months), ("quayside/httpdate.lengths", laid_quayside_httpdate_lengths), ("unicode/utf8.acceptRanges", laid_unicode_utf8_acceptRanges), ("unicode/utf8.first", laid_unicode_utf8_first)], narrowed := true }
def LifetimeStrictUptoSaid : Prop := lifetimeStrictUptoRow.holds Tryd.pinned (OpenSpec.upto lifetimeStrictSpec)

/-- 'quaysidelaw14.LifetimeBroken', WHERE WHAT IT READS IS OF BULK AT MOST 1048576: true; the input reads as it did. -/
def lifetimeBrokenUptoRow : OpenClaim := { program := "ytjacgdjnocpodaadoor", sum := "24f0064bdb7d97aaefd6de3b79eaadf814dd7b94b76a9b5a69643d914526ec21", func := "quayside/quaysidelaw14.LifetimeBroken", spec := "lifetimeBroken", inPlace := ["internal/bytealg.IndexByteString", "internal/bytealg.IndexString", "internal/abi.NoEscape", "internal/bytealg.MakeNoZero"], named := ["quayside/httpdate.weekdays", "quayside/httpdate.months", "quayside/httpdate.lengths", "unicode/utf8.first", "unicode/utf8.acceptRanges", "internal/bytealg.MaxLen"], apart := false, laid := [("quayside/httpdate.weekdays", laid_quayside_httpdate_weekdays), ("quayside/httpdate.months", laid_quayside_httpdate_months), ("quayside/httpdate.lengths", laid_quayside_httpdate_lengths), ("unicode/utf8.acceptRanges", laid_unicode_utf8_acceptRanges), ("unicode/utf8.first", laid_unicode_utf8_first)], narrowed := true }
def LifetimeBrokenUptoSaid : Prop := lifetimeBrokenUptoRow.holds Tryd.pinned (OpenSpec.upto lifetimeBrokenSpec)

/-- 'quaysidelaw14.LifetimeFirst', WHERE WHAT IT READS IS OF BULK AT MOST 1048576: true; the input reads as it did. -/
def lifetimeFirstUptoRow : OpenClaim := { program := "ytjacgdjnocpodaadoor", sum := "24f0064bdb7d97aaefd6de3b79eaadf814dd7b94b76a9b5a69643d914526ec21", func := "quayside/quaysidelaw14.LifetimeFirst", spec := "lifetimeFirst", inPlace := ["internal/bytealg.IndexByteString", "internal/bytealg.IndexString", "internal/abi.NoEscape", "internal/bytealg.MakeNoZero"], named := ["quayside/httpdate.weekdays", "quayside/httpdate.months", "quayside/httpdate.lengths", "unicode/utf8.first", "unicode/utf8.acceptRanges", "internal/bytealg.MaxLen", "internal/strconv.uint64pow10", "math/bits.deBruijn32tab", "math/bits.deBruijn64tab"], apart := false, laid := [("math/bits.deBruijn32tab", laid_math_bits_deBruijn32tab), ("math/bits.deBruijn64tab", laid_math_bits_deBruijn64tab), ("internal/strconv.uint64pow10", laid_internal_strconv_uint64pow10), ("quayside/httpdate.weekdays", laid_quayside_httpdate_weekdays), ("quayside/httpdate.months", laid_quayside_httpdate_months), ("quayside/httpdate.lengths", laid_quayside_httpdate_lengths), ("unicode/utf8.acceptRanges", laid_unicode_utf8_acceptRanges), ("unicode/utf8.first", laid_unicode_utf8_first)], narrowed := true }
def LifetimeFirstUptoSaid : Prop := lifetimeFirstUptoRow.holds Tryd.pinned (OpenSpec.upto lifetimeFirstSpec)

end Rows
end Go.Proofs.YtjacgdjnocpodaaDoor
