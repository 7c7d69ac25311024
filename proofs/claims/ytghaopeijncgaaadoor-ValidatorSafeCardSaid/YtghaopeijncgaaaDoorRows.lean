/-
  NARROWER THAN 'FOR EVERY INPUT', by the rows' own cells (each row's printed sentence says how): ValidatorReads: laid · ValidatorLists: laid · ValidatorCompares: laid · ValidatorTags: laid · ValidatorEvaluates: laid · ValidatorPrecedence: laid · ValidatorRanges: laid · ValidatorSafe: laid.
  DERIVED. THE GIVEN ROWS OF THIS SEAT. 8 by the template 'for every input the law returns true; each argument reads behind the call as it read before'; 0 by the template 'total and deterministic' (their statements: YtghaopeijncgaaaDoorTotals.lean).
  GIVEN WITH THE SEED: the statements are not yours to turn. If you find one false, say at which input.
  Laid BY PROGRAM, IN A SANDBOX (cutbox-rows.mjs): the forced cells as the released guide's own fill.sh prints them over the translation fde039b570b0dbcb… (all of the seat's roots in one cut). By AI agents, Wed Nov 11 2026. No macro, syntax, notation, axiom, sorry.
-/
import Derived.Test.YtghaopeijncgaaaDoorChecked
import GoSem.PinnedTables
import GoSem.Claim
import GoSem.ClaimJoined
import GoSem.ClaimMapViews
import Derived.JoinedTies
import Derived.KernelRfl
namespace Go.Proofs.YtghaopeijncgaaaDoor
/- THE CELL 'sum', in the pinned program and in every row, IS THE sha256 OF THE DUMP (.gsa) THAT YtghaopeijncgaaaDoorProg.lean LOADS. Nothing in Lean hashes anything: it is a label: what it is worth is what the hold of that sum in a sandbox is worth. -/
noncomputable def Tryd.pinned : Pinned := { name := "ytghaopeijncgaaadoor", sum := "fde039b570b0dbcbcf218c867aad5d18e91e7c345bb696ceddbaf7b0aadcad6b", checked := Tryd.checked }
namespace Rows
def none {H : Type} : Left H := { results := [], args := [] }

/- WHAT THE LISTED PACKAGE-LEVEL VARIABLES READ AS WHEN THE CALL BEGINS. Each datum BY PROGRAM (the guide's laid-datum.mjs) off the statement by which the dump's own 'gosem.cut.vars' lays the variable. In a bare row this is a premise. The card (YtghaopeijncgaaaDoorCards.lean) ties it to the program's text. -/
def laid_quayside_httpdate_weekdays {H : Type} : DataW H := .agg [.lit (.string [83, 117, 110]), .lit (.string [77, 111, 110]), .lit (.string [84, 117, 101]), .lit (.string [87, 101, 100]), .lit (.string [84, 104, 117]), .lit (.string [70, 114, 105]), .lit (.string [83, 97, 116])]
def laid_quayside_httpdate_months {H : Type} : DataW H := .agg [.lit (.string [74, 97, 110]), .lit (.string [70, 101, 98]), .lit (.string [77, 97, 114]), .lit (.string [65, 112, 114]), .lit (.string [77, 97, 121]), .lit (.string [74, 117, 110]), .lit (.string [74, 117, 108]), .lit (.string [65, 117, 103]), .lit (.string [83, 101, 112]), .lit (.string [79, 99, 116]), .lit (.string [78, 111, 118]), .lit (.string [68, 101, 99])]
def laid_quayside_httpdate_lengths {H : Type} : DataW H := .agg [.lit (.int .i64 31), .lit (.int .i64 28), .lit (.int .i64 31), .lit (.int .i64 30), .lit (.int .i64 31), .lit (.int .i64 30), .lit (.int .i64 31), .lit (.int .i64 31), .lit (.int .i64 30), .lit (.int .i64 31), .lit (.int .i64 30), .lit (.int .i64 31)]
def laid_unicode_utf8_acceptRanges {H : Type} : DataW H := .agg [.agg [.lit (.int .u8 128), .lit (.int .u8 191)], .agg [.lit (.int .u8 160), .lit (.int .u8 191)], .agg [.lit (.int .u8 128), .lit (.int .u8 159)], .agg [.lit (.int .u8 144), .lit (.int .u8 191)], .agg [.lit (.int .u8 128), .lit (.int .u8 143)], .agg [.lit (.int .u8 0), .lit (.int .u8 0)], .agg [.lit (.int .u8 0), .lit (.int .u8 0)], .agg [.lit (.int .u8 0), .lit (.int .u8 0)], .agg [.lit (.int .u8 0), .lit (.int .u8 0)], .agg [.lit (.int .u8 0), .lit (.int .u8 0)], .agg [.lit (.int .u8 0), .lit (.int .u8 0)], .agg [.lit (.int .u8 0), .lit (.int .u8 0)], .agg [.lit (.int .u8 0), .lit (.int .u8 0)], .agg [.lit (.int .u8 0), .lit (.int .u8 0)], .agg [.lit (.int .u8 0), .lit (.int .u8 0)], .agg [.lit (.int .u8 0), .lit (.int .u8 0)]]
/-- One of Go's own tables, pinned by name: the form's constant. -/
def laid_unicode_utf8_first : DataW Unit := Go.Pinned.utf8First

/-- 'quaysidelaw10.ValidatorReads': WHATEVER THE INPUT: true; the input reads as it did. -/
def validatorReadsSpec : ChangeSpec := { name := "validatorReads", fn := fun _ => fun
  | [d] => { results := [.lit (.bool true)], args := [d] }
  | _ => none }
def validatorReadsRow : OpenClaim := { program := "ytghaopeijncgaaadoor", sum := "fde039b570b0dbcbcf218c867aad5d18e91e7c345bb696ceddbaf7b0aadcad6b", func := "quayside/quaysidelaw10.ValidatorReads", spec := "validatorReads", inPlace := ["internal/abi.NoEscape", "internal/bytealg.MakeNoZero", "internal/bytealg.IndexByteString", "internal/bytealg.IndexString"], named := ["unicode/utf8.first", "unicode/utf8.acceptRanges", "quayside/httpdate.months", "quayside/httpdate.lengths", "quayside/httpdate.weekdays", "internal/bytealg.MaxLen"], apart := false, laid := [("quayside/httpdate.weekdays", laid_quayside_httpdate_weekdays), ("quayside/httpdate.months", laid_quayside_httpdate_months), ("quayside/httpdate.lengths", laid_quayside_httpdate_lengths), ("unicode/utf8.acceptRanges", laid_unicode_utf8_acceptRanges), ("unicode/utf8.first", laid_unicode_utf8_first)] }
def ValidatorReadsSaid : Prop := validatorReadsRow.holds Tryd.pinned (OpenSpec.ofChange validatorReadsSpec)

/-- ITS FALSE NEIGHBOUR: 'it returns false'. Refute it at one input. -/
def validatorReadsWrong : ChangeSpec := { name := "validatorReads", fn := fun _ => fun
  | [d] => { results := [.lit (.bool false)], args := [d] }
  | _ => none }
def ValidatorReadsWrongFalsely : Prop := validatorReadsRow.holds Tryd.pinned (OpenSpec.ofChange validatorReadsWrong)

/-- 'quaysidelaw10.ValidatorLists': WHATEVER THE INPUT: true; the input reads as it did. -/
def validatorListsSpec : ChangeSpec := { name := "validatorLists", fn := fun _ => fun
  | [d] => { results := [.lit (.bool true)], args := [d] }
  | _ => none }
def validatorListsRow : OpenClaim := { program := "ytghaopeijncgaaadoor", sum := "fde039b570b0dbcbcf218c867aad5d18e91e7c345bb696ceddbaf7b0aadcad6b", func := "quayside/quaysidelaw10.ValidatorLists", spec := "validatorLists", inPlace := ["internal/abi.NoEscape", "internal/bytealg.MakeNoZero", "internal/bytealg.IndexByteString", "internal/bytealg.IndexString"], named := ["unicode/utf8.first", "unicode/utf8.acceptRanges", "quayside/httpdate.months", "quayside/httpdate.lengths", "quayside/httpdate.weekdays", "internal/bytealg.MaxLen"], apart := false, laid := [("quayside/httpdate.weekdays", laid_quayside_httpdate_weekdays), ("quayside/httpdate.months", laid_quayside_httpdate_months), ("quayside/httpdate.lengths", laid_quayside_httpdate_lengths), ("unicode/utf8.acceptRanges", laid_unicode_utf8_acceptRanges), ("unicode/utf8.first", laid_unicode_utf8_first)] }
def ValidatorListsSaid : Prop := validatorListsRow.holds Tryd.pinned (OpenSpec.ofChange validatorListsSpec)

/-- ITS FALSE NEIGHBOUR: 'it returns false'. Refute it at one input. -/
def validatorListsWrong : ChangeSpec := { name := "validatorLists", fn := fun _ => fun
  | [d] => { results := [.lit (.bool false)], args := [d] }
  | _ => none }
def ValidatorListsWrongFalsely : Prop := validatorListsRow.holds Tryd.pinned (OpenSpec.ofChange validatorListsWrong)

/-- 'quaysidelaw10.ValidatorCompares': WHATEVER THE INPUT: true; the input reads as it did. -/
def validatorComparesSpec : ChangeSpec := { name := "validatorCompares", fn := fun _ => fun
  | [d1, d2] => { results := [.lit (.bool true)], args := [d1, d2] }
  | _ => none }
def validatorComparesRow : OpenClaim := { program := "ytghaopeijncgaaadoor", sum := "fde039b570b0dbcbcf218c867aad5d18e91e7c345bb696ceddbaf7b0aadcad6b", func := "quayside/quaysidelaw10.ValidatorCompares", spec := "validatorCompares", inPlace := ["internal/abi.NoEscape", "internal/bytealg.MakeNoZero", "internal/bytealg.IndexByteString", "internal/bytealg.IndexString"], named := ["unicode/utf8.first", "unicode/utf8.acceptRanges", "quayside/httpdate.months", "quayside/httpdate.lengths", "quayside/httpdate.weekdays", "internal/bytealg.MaxLen"], apart := false, laid := [("quayside/httpdate.weekdays", laid_quayside_httpdate_weekdays), ("quayside/httpdate.months", laid_quayside_httpdate_months), ("quayside/httpdate.lengths", laid_quayside_httpdate_lengths), ("unicode/utf8.acceptRanges", laid_unicode_utf8_acceptRanges), ("unicode/utf8.first", laid_unicode_utf8_first)] }
def ValidatorComparesSaid : Prop := validatorComparesRow.holds Tryd.pinned (OpenSpec.ofChange validatorComparesSpec)

/-- ITS FALSE NEIGHBOUR: 'it returns false'. Refute it at one input. -/
def validatorComparesWrong : ChangeSpec := { name := "validatorCompares", fn := fun _ => fun
  | [d1, d2] => { results := [.lit (.bool false)], args := [d1, d2] }
  | _ => none }
def ValidatorComparesWrongFalsely : Prop := validatorComparesRow.holds Tryd.pinned (OpenSpec.ofChange validatorComparesWrong)

/-- 'quaysidelaw10.ValidatorTags': WHATEVER THE INPUT: true; the input reads as it did. -/
def validatorTagsSpec : ChangeSpec := { name := "validatorTags", fn := fun _ => fun
  | [d] => { results := [.lit (.bool true)], args := [d] }
  | _ => none }
def validatorTagsRow : OpenClaim := { program := "ytghaopeijncgaaadoor", sum := "fde039b570b0dbcbcf218c867aad5d18e91e7c345bb696ceddbaf7b0aadcad6b", func := "quayside/quaysidelaw10.ValidatorTags", spec := "validatorTags", inPlace := ["internal/abi.NoEscape", "internal/bytealg.MakeNoZero", "internal/bytealg.IndexByteString", "internal/bytealg.IndexString"], named := ["unicode/utf8.first", "unicode/utf8.acceptRanges", "quayside/httpdate.months", "quayside/httpdate.lengths", "quayside/httpdate.weekdays", "internal/bytealg.MaxLen"], apart := false, laid := [("quayside/httpdate.weekdays", laid_quayside_httpdate_weekdays), ("quayside/httpdate.months", laid_quayside_httpdate_months), ("quayside/httpdate.lengths", laid_quayside_httpdate_lengths), ("unicode/utf8.acceptRanges", laid_unicode_utf8_acceptRanges), ("unicode/utf8.first", laid_unicode_utf8_first)] }
def ValidatorTagsSaid : Prop := validatorTagsRow.holds Tryd.pinned (OpenSpec.ofChange validatorTagsSpec)

/-- ITS FALSE NEIGHBOUR: 'it returns false'. Refute it at one input. -/
def validatorTagsWrong : ChangeSpec := { name := "validatorTags", fn := fun _ => fun
  | [d] => { results := [.lit (.bool false)], args := [d] }
  | _ => none }
def ValidatorTagsWrongFalsely : Prop := validatorTagsRow.holds Tryd.pinned (OpenSpec.ofChange validatorTagsWrong)

/-- 'quaysidelaw10.ValidatorEvaluates': WHATEVER THE INPUT: true; the input reads as it did. -/
def validatorEvaluatesSpec : ChangeSpec := { name := "validatorEvaluates", fn := fun _ => fun
  | [d] => { results := [.lit (.bool true)], args := [d] }
  | _ => none }
def validatorEvaluatesRow : OpenClaim := { program := "ytghaopeijncgaaadoor", sum := "fde039b570b0dbcbcf218c867aad5d18e91e7c345bb696ceddbaf7b0aadcad6b", func := "quayside/quaysidelaw10.ValidatorEvaluates", spec := "validatorEvaluates", inPlace := ["internal/abi.NoEscape", "internal/bytealg.MakeNoZero", "internal/bytealg.IndexByteString", "internal/bytealg.IndexString"], named := ["unicode/utf8.first", "unicode/utf8.acceptRanges", "quayside/httpdate.months", "quayside/httpdate.lengths", "quayside/httpdate.weekdays", "internal/bytealg.MaxLen"], apart := false, laid := [("quayside/httpdate.weekdays", laid_quayside_httpdate_weekdays), ("quayside/httpdate.months", laid_quayside_httpdate_months), ("quayside/httpdate.lengths", laid_quayside_httpdate_lengths), ("unicode/utf8.acceptRanges", laid_unicode_utf8_acceptRanges), ("unicode/utf8.first", laid_unicode_utf8_first)] }
def ValidatorEvaluatesSaid : Prop := validatorEvaluatesRow.holds Tryd.pinned (OpenSpec.ofChange validatorEvaluatesSpec)

/-- ITS FALSE NEIGHBOUR: 'it returns false'. Refute it at one input. -/
def validatorEvaluatesWrong : ChangeSpec := { name := "validatorEvaluates", fn := fun _ => fun
  | [d] => { results := [.lit (.bool false)], args := [d] }
  | _ => none }
def ValidatorEvaluatesWrongFalsely : Prop := validatorEvaluatesRow.holds Tryd.pinned (OpenSpec.ofChange validatorEvaluatesWrong)

/-- 'quaysidelaw10.ValidatorPrecedence': WHATEVER THE INPUT: true; the input reads as it did. -/
def validatorPrecedenceSpec : ChangeSpec := { name := "validatorPrecedence", fn := fun _ => fun
  | [d1, d2, d3] => { results := [.lit (.bool true)], args := [d1, d2, d3] }
  | _ => none }
def validatorPrecedenceRow : OpenClaim := { program := "ytghaopeijncgaaadoor", sum := "fde039b570b0dbcbcf218c867aad5d18e91e7c345bb696ceddbaf7b0aadcad6b", func := "quayside/quaysidelaw10.ValidatorPrecedence", spec := "validatorPrecedence", inPlace := ["internal/abi.NoEscape", "internal/bytealg.MakeNoZero", "internal/bytealg.IndexByteString", "internal/bytealg.IndexString"], named := ["unicode/utf8.first", "unicode/utf8.acceptRanges", "quayside/httpdate.months", "quayside/httpdate.lengths", "quayside/httpdate.weekdays", "internal/bytealg.MaxLen"], apart := false, laid := [("quayside/httpdate.weekdays", laid_quayside_httpdate_weekdays), ("quayside/httpdate.months", laid_quayside_httpdate_months), ("quayside/httpdate.lengths", laid_quayside_httpdate_lengths), ("unicode/utf8.acceptRanges", laid_unicode_utf8_acceptRanges), ("unicode/utf8.first", laid_unicode_utf8_first)] }
def ValidatorPrecedenceSaid : Prop := validatorPrecedenceRow.holds Tryd.pinned (OpenSpec.ofChange validatorPrecedenceSpec)

/-- ITS FALSE NEIGHBOUR: 'it returns false'. Refute it at one input. -/
def validatorPrecedenceWrong : ChangeSpec := { name := "validatorPrecedence", fn := fun _ => fun
  | [d1, d2, d3] => { results := [.lit (.bool false)], args := [d1, d2, d3] }
  | _ => none }
def ValidatorPrecedenceWrongFalsely : Prop := validatorPrecedenceRow.holds Tryd.pinned (OpenSpec.ofChange validatorPrecedenceWrong)

/-- 'quaysidelaw10.ValidatorRanges': WHATEVER THE INPUT: true; the input reads as it did. -/
def validatorRangesSpec : ChangeSpec := { name := "validatorRanges", fn := fun _ => fun
  | [d1, d2] => { results := [.lit (.bool true)], args := [d1, d2] }
  | _ => none }
def validatorRangesRow : OpenClaim := { program := "ytghaopeijncgaaadoor", sum := "fde039b570b0dbcbcf218c867aad5d18e91e7c345bb696ceddbaf7b0aadcad6b", func := "quayside/quaysidelaw10.ValidatorRanges", spec := "validatorRanges", inPlace := ["internal/abi.NoEscape", "internal/bytealg.MakeNoZero", "internal/bytealg.IndexByteString", "internal/bytealg.IndexString"], unfollowed := true, recurses := true, named := ["unicode/utf8.first", "unicode/utf8.acceptRanges", "quayside/httpdate.months", "quayside/httpdate.lengths", "quayside/httpdate.weekdays", "internal/bytealg.MaxLen"], apart := false, laid := [("quayside/httpdate.weekdays", laid_quayside_httpdate_weekdays), ("quayside/httpdate.months", laid_quayside_httpdate_months), ("quayside/httpdate.lengths", laid_quayside_httpdate_lengths), ("unicode/utf8.acceptRanges", laid_unicode_utf8_acceptRanges), ("unicode/utf8.first", laid_unicode_utf8_first)] }
def ValidatorRangesSaid : Prop := validatorRangesRow.holds Tryd.pinned (OpenSpec.ofChange validatorRangesSpec)

/-- ITS FALSE NEIGHBOUR: 'it returns false'. Refute it at one input. -/
def validatorRangesWrong : ChangeSpec := { name := "validatorRanges", fn := fun _ => fun
  | [d1, d2] => { results := [.lit (.bool false)], args := [d1, d2] }
  | _ => none }
def ValidatorRangesWrongFalsely : Prop := validatorRangesRow.holds Tryd.pinned (OpenSpec.ofChange validatorRangesWrong)

/-- 'quaysidelaw10.ValidatorSafe': WHATEVER THE INPUT: true; the input reads as it did. -/
def validatorSafeSpec : ChangeSpec := { name := "validatorSafe", fn := fun _ => fun
  | [d] => { results := [.lit (.bool true)], args := [d] }
  | _ => none }
def validatorSafeRow : OpenClaim := { program := "ytghaopeijncgaaadoor", sum := "fde039b570b0dbcbcf218c867aad5d18e91e7c345bb696ceddbaf7b0aadcad6b", func := "quayside/quaysidelaw10.ValidatorSafe", spec := "validatorSafe", inPlace := ["internal/abi.NoEscape", "internal/bytealg.MakeNoZero", "internal/bytealg.IndexByteString", "internal/bytealg.IndexString"], named := ["unicode/utf8.first", "unicode/utf8.acceptRanges", "quayside/httpdate.months", "quayside/httpdate.lengths", "quayside/httpdate.weekdays", "internal/bytealg.MaxLen"], apart := false, laid := [("quayside/httpdate.weekdays", laid_quayside_httpdate_weekdays), ("quayside/httpdate.months", laid_quayside_httpdate_months), ("quayside/httpdate.lengths", laid_quayside_httpdate_lengths), ("unicode/utf8.acceptRanges", laid_unicode_utf8_acceptRanges), ("unicode/utf8.first", laid_unicode_utf8_first)] }
def ValidatorSafeSaid : Prop := validatorSafeRow.holds Tryd.pinned (OpenSpec.ofChange validatorSafeSpec)

/-- ITS FALSE NEIGHBOUR: 'it returns false'. Refute it at one input. -/
def validatorSafeWrong : ChangeSpec := { name := "validatorSafe", fn := fun _ => fun
  | [d] => { results := [.lit (.bool false)], args := [d] }
  | _ => none }
def ValidatorSafeWrongFalsely : Prop := validatorSafeRow.holds Tryd.pinned (OpenSpec.ofChange validatorSafeWrong)

/- THE SECOND FORM. 'bulk': how many values and letters a reading holds, each counted each time it is reached (what is shared counts as often as it is met; a slice's spare places count too). A statement '..UptoSaid' is the law's where the arguments, and the package variables that the reading takes, are together of bulk at most 1048576: NARROWER than '..Said'. Prove '..Said' where nothing that the law and all that it calls make is longer than what came in: it says more and counts as full. Else prove '..UptoSaid'. A law counts once. -/
mutual
def uptoBulk {H : Type} : DataW H → Nat
  | .lit (.string bytes) => bytes.length + 1
  | .lit _ => 1
  | .nil => 1
  | .ptr d => uptoBulk d + 1
  | .slice elems spare => uptoBulkAll elems + uptoBulkAll spare + 1
  | .agg parts => uptoBulkAll parts + 1
  | .iface _ d => uptoBulk d + 1
  | .map entries => uptoBulkEntries entries + 1
  | .held _ => 1
def uptoBulkAll {H : Type} : List (DataW H) → Nat
  | [] => 0
  | d :: r => uptoBulk d + uptoBulkAll r
def uptoBulkEntries {H : Type} : List (Lit × DataW H) → Nat
  | [] => 0
  | x :: r => uptoBulkEntry x + uptoBulkEntries r
def uptoBulkEntry {H : Type} : Lit × DataW H → Nat
  | (.string bytes, d) => bytes.length + uptoBulk d + 1
  | (_, d) => uptoBulk d + 1
 end
def uptoSmall : (H : Type) → List (DataW H) → Bool := fun _ ds => decide (uptoBulkAll ds ≤ 1048576)
def OpenSpec.upto (s : _root_.Go.ChangeSpec) : _root_.Go.OpenSpec := { _root_.Go.OpenSpec.ofChange s with cond := some uptoSmall }

/-- 'quaysidelaw10.ValidatorReads', WHERE WHAT IT READS IS OF BULK AT MOST 1048576: true; the input reads as it did. -/
def validatorReadsUptoRow : OpenClaim := { program := "ytghaopeijncgaaadoor", sum := "fde039b570b0dbcbcf218c867aad5d18e91e7c345bb696ceddbaf7b0aadcad6b", func := "quayside/quaysidelaw10.ValidatorReads", spec := "validatorReads", inPlace := ["internal/abi.NoEscape", "internal/bytealg.MakeNoZero", "internal/bytealg.IndexByteString", "internal/bytealg.IndexString"], named := ["unicode/utf8.first", "unicode/utf8.acceptRanges", "quayside/httpdate.months", "quayside/httpdate.lengths", "quayside/httpdate.weekdays", "internal/bytealg.MaxLen"], apart := false, laid := [("quayside/httpdate.weekdays", laid_quayside_httpdate_weekdays), ("quayside/httpdate.months", laid_quayside_httpdate_months), ("quayside/httpdate.lengths", laid_quayside_httpdate_lengths), ("unicode/utf8.acceptRanges", laid_unicode_utf8_acceptRanges), ("unicode/utf8.first", laid_unicode_utf8_first)], narrowed := true }
def ValidatorReadsUptoSaid : Prop := validatorReadsUptoRow.holds Tryd.pinned (OpenSpec.upto validatorReadsSpec)

/-- 'quaysidelaw10.ValidatorLists', WHERE WHAT IT READS IS OF BULK AT MOST 1048576: true; the input reads as it did. -/
def validatorListsUptoRow : OpenClaim := { program := "ytghaopeijncgaaadoor", sum := "fde039b570b0dbcbcf218c867aad5d18e91e7c345bb696ceddbaf7b0aadcad6b", func := "quayside/quaysidelaw10.ValidatorLists", spec := "validatorLists", inPlace := ["internal/abi.NoEscape", "internal/bytealg.MakeNoZero", "internal/bytealg.IndexByteString", "internal/bytealg.IndexString"], named := ["unicode/utf8.first", "unicode/utf8.acceptRanges", "quayside/httpdate.months", "quayside/httpdate.lengths", "quayside/httpdate.weekdays", "internal/bytealg.MaxLen"], apart := false, laid := [("quayside/httpdate.weekdays", laid_quayside_httpdate_weekdays), ("quayside/httpdate.months", laid_quayside_httpdate_months), ("quayside/httpdate.lengths", laid_quayside_httpdate_lengths), ("unicode/utf8.acceptRanges", laid_unicode_utf8_acceptRanges), ("unicode/utf8.first", laid_unicode_utf8_first)], narrowed := true }
def ValidatorListsUptoSaid : Prop := validatorListsUptoRow.holds Tryd.pinned (OpenSpec.upto validatorListsSpec)

/-- 'quaysidelaw10.ValidatorCompares', WHERE WHAT IT READS IS OF BULK AT MOST 1048576: true; the input reads as it did. -/
def validatorComparesUptoRow : OpenClaim := { program := "ytghaopeijncgaaadoor", sum := "fde039b570b0dbcbcf218c867aad5d18e91e7c345bb696ceddbaf7b0aadcad6b", func := "quayside/quaysidelaw10.ValidatorCompares", spec := "validatorCompares", inPlace := ["internal/abi.NoEscape", "internal/bytealg.MakeNoZero", "internal/bytealg.IndexByteString", "internal/bytealg.IndexString"], named := ["unicode/utf8.first", "unicode/utf8.acceptRanges", "quayside/httpdate.months", "quayside/httpdate.lengths", "quayside/httpdate.weekdays", "internal/bytealg.MaxLen"], apart := false, laid := [("quayside/httpdate.weekdays", laid_quayside_httpdate_weekdays), ("quayside/httpdate.months", laid_quayside_httpdate_months), ("quayside/httpdate.lengths", laid_quayside_httpdate_lengths), ("unicode/utf8.acceptRanges", laid_unicode_utf8_acceptRanges), ("unicode/utf8.first", laid_unicode_utf8_first)], narrowed := true }
def ValidatorComparesUptoSaid : Prop := validatorComparesUptoRow.holds Tryd.pinned (OpenSpec.upto validatorComparesSpec)

/-- 'quaysidelaw10.ValidatorTags', WHERE WHAT IT READS IS OF BULK AT MOST 1048576: true; the input reads as it did. -/
def validatorTagsUptoRow : OpenClaim := { program := "ytghaopeijncgaaadoor", sum := "fde039b570b0dbcbcf218c867aad5d18e91e7c345bb696ceddbaf7b0aadcad6b", func := "quayside/quaysidelaw10.ValidatorTags", spec := "validatorTags", inPlace := ["internal/abi.NoEscape", "internal/bytealg.MakeNoZero", "internal/bytealg.IndexByteString", "internal/bytealg.IndexString"], named := ["unicode/utf8.first", "unicode/utf8.acceptRanges", "quayside/httpdate.months", "quayside/httpdate.lengths", "quayside/httpdate.weekdays", "internal/bytealg.MaxLen"], apart := false, laid := [("quayside/httpdate.weekdays", laid_quayside_httpdate_weekdays), ("quayside/httpdate.months", laid_quayside_httpdate_months), ("quayside/httpdate.lengths", laid_quayside_httpdate_lengths), ("unicode/utf8.acceptRanges", laid_unicode_utf8_acceptRanges), ("unicode/utf8.first", laid_unicode_utf8_first)], narrowed := true }
def ValidatorTagsUptoSaid : Prop := validatorTagsUptoRow.holds Tryd.pinned (OpenSpec.upto validatorTagsSpec)

/-- 'quaysidelaw10.ValidatorEvaluates', WHERE WHAT IT READS IS OF BULK AT MOST 1048576: true; the input reads as it did. -/
def validatorEvaluatesUptoRow : OpenClaim := { program := "ytghaopeijncgaaadoor", sum := "fde039b570b0dbcbcf218c867aad5d18e91e7c345bb696ceddbaf7b0aadcad6b", func := "quayside/quaysidelaw10.ValidatorEvaluates", spec := "validatorEvaluates", inPlace := ["internal/abi.NoEscape", "internal/bytealg.MakeNoZero", "internal/bytealg.IndexByteString", "internal/bytealg.IndexString"], named := ["unicode/utf8.first", "unicode/utf8.acceptRanges", "quayside/httpdate.months", "quayside/httpdate.lengths", "quayside/httpdate.weekdays", "internal/bytealg.MaxLen"], apart := false, laid := [("quayside/httpdate.weekdays", laid_quayside_httpdate_weekdays), ("quayside/httpdate.months", laid_quayside_httpdate_months), ("quayside/httpdate.lengths", laid_quayside_httpdate_lengths), ("unicode/utf8.acceptRanges", laid_unicode_utf8_acceptRanges), ("unicode/utf8.first", laid_unicode_utf8_first)], narrowed := true }
def ValidatorEvaluatesUptoSaid : Prop := validatorEvaluatesUptoRow.holds Tryd.pinned (OpenSpec.upto validatorEvaluatesSpec)

/-- 'quaysidelaw10.ValidatorPrecedence', WHERE WHAT IT READS IS OF BULK AT MOST 1048576: true; the input reads as it did. -/
def validatorPrecedenceUptoRow : OpenClaim := { program := "ytghaopeijncgaaadoor", sum := "fde039b570b0dbcbcf218c867aad5d18e91e7c345bb696ceddbaf7b0aadcad6b", func := "quayside/quaysidelaw10.ValidatorPrecedence", spec := "validatorPrecedence", inPlace := ["internal/abi.NoEscape", "internal/bytealg.MakeNoZero", "internal/bytealg.IndexByteString", "internal/bytealg.IndexString"], named := ["unicode/utf8.first", "unicode/utf8.acceptRanges", "quayside/httpdate.months", "quayside/httpdate.lengths", "quayside/httpdate.weekdays", "internal/bytealg.MaxLen"], apart := false, laid := [("quayside/httpdate.weekdays", laid_quayside_httpdate_weekdays), ("quayside/httpdate.months", laid_quayside_httpdate_months), ("quayside/httpdate.lengths", laid_quayside_httpdate_lengths), ("unicode/utf8.acceptRanges", laid_unicode_utf8_acceptRanges), ("unicode/utf8.first", laid_unicode_utf8_first)], narrowed := true }
def ValidatorPrecedenceUptoSaid : Prop := validatorPrecedenceUptoRow.holds Tryd.pinned (OpenSpec.upto validatorPrecedenceSpec)

/-- 'quaysidelaw10.ValidatorRanges', WHERE WHAT IT READS IS OF BULK AT MOST 1048576: true; the input reads as it did. -/
def validatorRangesUptoRow : OpenClaim := { program := "ytghaopeijncgaaadoor", sum := "fde039b570b0dbcbcf218c867aad5d18e91e7c345bb696ceddbaf7b0aadcad6b", func := "quayside/quaysidelaw10.ValidatorRanges", spec := "validatorRanges", inPlace := ["internal/abi.NoEscape", "internal/bytealg.MakeNoZero", "internal/bytealg.IndexByteString", "internal/bytealg.IndexString"], unfollowed := true, recurses := true, named := ["unicode/utf8.first", "unicode/utf8.acceptRanges", "quayside/httpdate.months", "quayside/httpdate.lengths", "quayside/httpdate.weekdays", "internal/bytealg.MaxLen"], apart := false, laid := [("quayside/httpdate.weekdays", laid_quayside_httpdate_weekdays), ("quayside/httpdate.months", laid_quayside_httpdate_months), ("quayside/httpdate.lengths", laid_quayside_httpdate_lengths), ("unicode/utf8.acceptRanges", laid_unicode_utf8_acceptRanges), ("unicode/utf8.first", laid_unicode_utf8_first)], narrowed := true }
def ValidatorRangesUptoSaid : Prop := validatorRangesUptoRow.holds Tryd.pinned (OpenSpec.upto validatorRangesSpec)

/-- 'quaysidelaw10.ValidatorSafe', WHERE WHAT IT READS IS OF BULK AT MOST 1048576: true; the input reads as it did. -/
def validatorSafeUptoRow : OpenClaim := { program := "ytghaopeijncgaaadoor", sum := "fde039b570b0dbcbcf218c867aad5d18e91e7c345bb696ceddbaf7b0aadcad6b", func := "quayside/quaysidelaw10.ValidatorSafe", spec := "validatorSafe", inPlace := ["internal/abi.NoEscape", "internal/bytealg.MakeNoZero", "internal/bytealg.IndexByteString", "internal/bytealg.IndexString"], named := ["unicode/utf8.first", "unicode/utf8.acceptRanges", "quayside/httpdate.months", "quayside/httpdate.lengths", "quayside/httpdate.weekdays", "internal/bytealg.MaxLen"], apart := false, laid := [("quayside/httpdate.weekdays", laid_quayside_httpdate_weekdays), ("quayside/httpdate.months", laid_quayside_httpdate_months), ("quayside/httpdate.lengths", laid_quayside_httpdate_lengths), ("unicode/utf8.acceptRanges", laid_unicode_utf8_acceptRanges), ("unicode/utf8.first", laid_unicode_utf8_first)], narrowed := true }
def ValidatorSafeUptoSaid : Prop := validatorSafeUptoRow.holds Tryd.pinned (OpenSpec.upto validatorSafeSpec)

end Rows
end Go.Proofs.YtghaopeijncgaaaDoor
