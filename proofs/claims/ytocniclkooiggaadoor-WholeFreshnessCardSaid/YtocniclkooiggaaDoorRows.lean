/-
  NARROWER THAN 'FOR EVERY INPUT', by the rows' own cells (each row's printed sentence says how): WholeFreshness: laid · PolicyStricter: laid · PolicyLater: laid · PolicyValidators: laid · PolicyPlain: laid · PolicyTruth: laid.
  DERIVED. THE GIVEN ROWS OF THIS SEAT. 6 by the template 'for every input the law returns true; each argument reads behind the call as it read before'; 0 by the template 'total and deterministic' (their statements: YtocniclkooiggaaDoorTotals.lean).
  GIVEN WITH THE SEED: the statements are not yours to turn. If you find one false, say at which input.
  Laid BY PROGRAM, IN A SANDBOX (cutbox-rows.mjs): the forced cells as the released guide's own fill.sh prints them over the translation 002e8016911cf1d7… (all of the seat's roots in one cut). By AI agents, Wed Nov 11 2026. No macro, syntax, notation, axiom, sorry.
-/
import Derived.Test.YtocniclkooiggaaDoorChecked
import GoSem.PinnedTables
import GoSem.Claim
import GoSem.ClaimJoined
import GoSem.ClaimMapViews
import Derived.JoinedTies
import Derived.KernelRfl
namespace Go.Proofs.YtocniclkooiggaaDoor
/- THE CELL 'sum', in the pinned program and in every row, IS THE sha256 OF THE DUMP (.gsa) THAT YtocniclkooiggaaDoorProg.lean LOADS. Nothing in Lean hashes anything: it is a label: what it is worth is what the hold of that sum in a sandbox is worth. -/
noncomputable def Tryd.pinned : Pinned := { name := "ytocniclkooiggaadoor", sum := "002e8016911cf1d79a783202e4d30ca21f028336fe8edf822d3239837db82fc8", checked := Tryd.checked }
namespace Rows
def none {H : Type} : Left H := { results := [], args := [] }

/- WHAT THE LISTED PACKAGE-LEVEL VARIABLES READ AS WHEN THE CALL BEGINS. Each datum BY PROGRAM (the guide's laid-datum.mjs) off the statement by which the dump's own 'gosem.cut.vars' lays the variable. In a bare row this is a premise. The card (YtocniclkooiggaaDoorCards.lean) ties it to the program's text. -/
def laid_quayside_httpdate_weekdays {H : Type} : DataW H := .agg [.lit (.string [83, 117, 110]), .lit (.string [77, 111, 110]), .lit (.string [84, 117, 101]), .lit (.string [87, 101, 100]), .lit (.string [84, 104, 117]), .lit (.string [70, 114, 105]), .lit (.string [83, 97, 116])]
def laid_quayside_httpdate_months {H : Type} : DataW H := .agg [.lit (.string [74, 97, 110]), .lit (.string [70, 101, 98]), .lit (.string [77, 97, 114]), .lit (.string [65, 112, 114]), .lit (.string [77, 97, 121]), .lit (.string [74, 117, 110]), .lit (.string [74, 117, 108]), .lit (.string [65, 117, 103]), .lit (.string [83, 101, 112]), .lit (.string [79, 99, 116]), .lit (.string [78, 111, 118]), .lit (.string [68, 101, 99])]
def laid_quayside_httpdate_lengths {H : Type} : DataW H := .agg [.lit (.int .i64 31), .lit (.int .i64 28), .lit (.int .i64 31), .lit (.int .i64 30), .lit (.int .i64 31), .lit (.int .i64 30), .lit (.int .i64 31), .lit (.int .i64 31), .lit (.int .i64 30), .lit (.int .i64 31), .lit (.int .i64 30), .lit (.int .i64 31)]
def laid_unicode_utf8_acceptRanges {H : Type} : DataW H := .agg [.agg [.lit (.int .u8 128), .lit (.int .u8 191)], .agg [.lit (.int .u8 160), .lit (.int .u8 191)], .agg [.lit (.int .u8 128), .lit (.int .u8 159)], .agg [.lit (.int .u8 144), .lit (.int .u8 191)], .agg [.lit (.int .u8 128), .lit (.int .u8 143)], .agg [.lit (.int .u8 0), .lit (.int .u8 0)], .agg [.lit (.int .u8 0), .lit (.int .u8 0)], .agg [.lit (.int .u8 0), .lit (.int .u8 0)], .agg [.lit (.int .u8 0), .lit (.int .u8 0)], .agg [.lit (.int .u8 0), .lit (.int .u8 0)], .agg [.lit (.int .u8 0), .lit (.int .u8 0)], .agg [.lit (.int .u8 0), .lit (.int .u8 0)], .agg [.lit (.int .u8 0), .lit (.int .u8 0)], .agg [.lit (.int .u8 0), .lit (.int .u8 0)], .agg [.lit (.int .u8 0), .lit (.int .u8 0)], .agg [.lit (.int .u8 0), .lit (.int .u8 0)]]
/-- One of Go's own tables, pinned by name: the form's constant. -/
def laid_unicode_utf8_first : DataW Unit := Go.Pinned.utf8First

/-- 'quaysidetop.WholeFreshness': WHATEVER THE INPUT: true; the input reads as it did. -/
def wholeFreshnessSpec : ChangeSpec := { name := "wholeFreshness", fn := fun _ => fun
  | [d1, d2, d3] => { results := [.lit (.bool true)], args := [d1, d2, d3] }
  | _ => none }
def wholeFreshnessRow : OpenClaim := { program := "ytocniclkooiggaadoor", sum := "002e8016911cf1d79a783202e4d30ca21f028336fe8edf822d3239837db82fc8", func := "quayside/quaysidetop.WholeFreshness", spec := "wholeFreshness", inPlace := ["internal/bytealg.IndexByteString", "internal/bytealg.IndexString", "internal/abi.NoEscape", "internal/bytealg.MakeNoZero"], recurses := true, named := ["unicode/utf8.first", "unicode/utf8.acceptRanges", "internal/bytealg.MaxLen", "quayside/httpdate.months", "quayside/httpdate.lengths", "quayside/httpdate.weekdays"], apart := false, laid := [("quayside/httpdate.weekdays", laid_quayside_httpdate_weekdays), ("quayside/httpdate.months", laid_quayside_httpdate_months), ("quayside/httpdate.lengths", laid_quayside_httpdate_lengths), ("unicode/utf8.acceptRanges", laid_unicode_utf8_acceptRanges), ("unicode/utf8.first", laid_unicode_utf8_first)] }
def WholeFreshnessSaid : Prop := wholeFreshnessRow.holds Tryd.pinned (OpenSpec.ofChange wholeFreshnessSpec)

/-- ITS FALSE NEIGHBOUR: 'it returns false'. Refute it at one input. -/
def wholeFreshnessWrong : ChangeSpec := { name := "wholeFreshness", fn := fun _ => fun
  | [d1, d2, d3] => { results := [.lit (.bool false)], args := [d1, d2, d3] }
  | _ => none }
def WholeFreshnessWrongFalsely : Prop := wholeFreshnessRow.holds Tryd.pinned (OpenSpec.ofChange wholeFreshnessWrong)

/-- 'quaysidelaw17.PolicyStricter': WHATEVER THE INPUT: true; the input reads as it did. -/
def policyStricterSpec : ChangeSpec := { name := "policyStricter", fn := fun _ => fun
  | [d1, d2, d3] => { results := [.lit (.bool true)], args := [d1, d2, d3] }
  | _ => none }
def policyStricterRow : OpenClaim := { program := "ytocniclkooiggaadoor", sum := "002e8016911cf1d79a783202e4d30ca21f028336fe8edf822d3239837db82fc8", func := "quayside/quaysidelaw17.PolicyStricter", spec := "policyStricter", inPlace := ["internal/bytealg.IndexByteString", "internal/bytealg.IndexString", "internal/abi.NoEscape", "internal/bytealg.MakeNoZero"], named := ["unicode/utf8.first", "unicode/utf8.acceptRanges", "internal/bytealg.MaxLen", "quayside/httpdate.months", "quayside/httpdate.lengths", "quayside/httpdate.weekdays"], apart := false, laid := [("quayside/httpdate.weekdays", laid_quayside_httpdate_weekdays), ("quayside/httpdate.months", laid_quayside_httpdate_months), ("quayside/httpdate.lengths", laid_quayside_httpdate_lengths), ("unicode/utf8.acceptRanges", laid_unicode_utf8_acceptRanges), ("unicode/utf8.first", laid_unicode_utf8_first)] }
def PolicyStricterSaid : Prop := policyStricterRow.holds Tryd.pinned (OpenSpec.ofChange policyStricterSpec)

/-- ITS FALSE NEIGHBOUR: 'it returns false'. Refute it at one input. -/
def policyStricterWrong : ChangeSpec := { name := "policyStricter", fn := fun _ => fun
  | [d1, d2, d3] => { results := [.lit (.bool false)], args := [d1, d2, d3] }
  | _ => none }
def PolicyStricterWrongFalsely : Prop := policyStricterRow.holds Tryd.pinned (OpenSpec.ofChange policyStricterWrong)

/-- 'quaysidelaw17.PolicyLater': WHATEVER THE INPUT: true; the input reads as it did. -/
def policyLaterSpec : ChangeSpec := { name := "policyLater", fn := fun _ => fun
  | [d1, d2, d3] => { results := [.lit (.bool true)], args := [d1, d2, d3] }
  | _ => none }
def policyLaterRow : OpenClaim := { program := "ytocniclkooiggaadoor", sum := "002e8016911cf1d79a783202e4d30ca21f028336fe8edf822d3239837db82fc8", func := "quayside/quaysidelaw17.PolicyLater", spec := "policyLater", inPlace := ["internal/bytealg.IndexByteString", "internal/bytealg.IndexString", "internal/abi.NoEscape", "internal/bytealg.MakeNoZero"], named := ["unicode/utf8.first", "unicode/utf8.acceptRanges", "internal/bytealg.MaxLen", "quayside/httpdate.months", "quayside/httpdate.lengths", "quayside/httpdate.weekdays"], apart := false, laid := [("quayside/httpdate.weekdays", laid_quayside_httpdate_weekdays), ("quayside/httpdate.months", laid_quayside_httpdate_months), ("quayside/httpdate.lengths", laid_quayside_httpdate_lengths), ("unicode/utf8.acceptRanges", laid_unicode_utf8_acceptRanges), ("unicode/utf8.first", laid_unicode_utf8_first)] }
def PolicyLaterSaid : Prop := policyLaterRow.holds Tryd.pinned (OpenSpec.ofChange policyLaterSpec)

/-- ITS FALSE NEIGHBOUR: 'it returns false'. Refute it at one input. -/
def policyLaterWrong : ChangeSpec := { name := "policyLater", fn := fun _ => fun
  | [d1, d2, d3] => { results := [.lit (.bool false)], args := [d1, d2, d3] }
  | _ => none }
def PolicyLaterWrongFalsely : Prop := policyLaterRow.holds Tryd.pinned (OpenSpec.ofChange policyLaterWrong)

/-- 'quaysidelaw17.PolicyValidators': WHATEVER THE INPUT: true; the input reads as it did. -/
def policyValidatorsSpec : ChangeSpec := { name := "policyValidators", fn := fun _ => fun
  | [d1, d2, d3] => { results := [.lit (.bool true)], args := [d1, d2, d3] }
  | _ => none }
def policyValidatorsRow : OpenClaim := { program := "ytocniclkooiggaadoor", sum := "002e8016911cf1d79a783202e4d30ca21f028336fe8edf822d3239837db82fc8", func := "quayside/quaysidelaw17.PolicyValidators", spec := "policyValidators", inPlace := ["internal/bytealg.IndexByteString", "internal/bytealg.IndexString", "internal/abi.NoEscape", "internal/bytealg.MakeNoZero"], named := ["unicode/utf8.first", "unicode/utf8.acceptRanges", "internal/bytealg.MaxLen", "quayside/httpdate.months", "quayside/httpdate.lengths", "quayside/httpdate.weekdays"], apart := false, laid := [("quayside/httpdate.weekdays", laid_quayside_httpdate_weekdays), ("quayside/httpdate.months", laid_quayside_httpdate_months), ("quayside/httpdate.lengths", laid_quayside_httpdate_lengths), ("unicode/utf8.acceptRanges", laid_unicode_utf8_acceptRanges), ("unicode/utf8.first", laid_unicode_utf8_first)] }
def PolicyValidatorsSaid : Prop := policyValidatorsRow.holds Tryd.pinned (OpenSpec.ofChange policyValidatorsSpec)

/-- ITS FALSE NEIGHBOUR: 'it returns false'. Refute it at one input. -/
def policyValidatorsWrong : ChangeSpec := { name := "policyValidators", fn := fun _ => fun
  | [d1, d2, d3] => { results := [.lit (.bool false)], args := [d1, d2, d3] }
  | _ => none }
def PolicyValidatorsWrongFalsely : Prop := policyValidatorsRow.holds Tryd.pinned (OpenSpec.ofChange policyValidatorsWrong)

/-- 'quaysidelaw17.PolicyPlain': WHATEVER THE INPUT: true; the input reads as it did. -/
def policyPlainSpec : ChangeSpec := { name := "policyPlain", fn := fun _ => fun
  | [d1, d2] => { results := [.lit (.bool true)], args := [d1, d2] }
  | _ => none }
def policyPlainRow : OpenClaim := { program := "ytocniclkooiggaadoor", sum := "002e8016911cf1d79a783202e4d30ca21f028336fe8edf822d3239837db82fc8", func := "quayside/quaysidelaw17.PolicyPlain", spec := "policyPlain", inPlace := ["internal/bytealg.IndexByteString", "internal/bytealg.IndexString", "internal/abi.NoEscape", "internal/bytealg.MakeNoZero"], named := ["unicode/utf8.first", "unicode/utf8.acceptRanges", "internal/bytealg.MaxLen", "quayside/httpdate.months", "quayside/httpdate.lengths", "quayside/httpdate.weekdays"], apart := false, laid := [("quayside/httpdate.weekdays", laid_quayside_httpdate_weekdays), ("quayside/httpdate.months", laid_quayside_httpdate_months), ("quayside/httpdate.lengths", laid_quayside_httpdate_lengths), ("unicode/utf8.acceptRanges", laid_unicode_utf8_acceptRanges), ("unicode/utf8.first", laid_unicode_utf8_first)] }
def PolicyPlainSaid : Prop := policyPlainRow.holds Tryd.pinned (OpenSpec.ofChange policyPlainSpec)

/-- ITS FALSE NEIGHBOUR: 'it returns false'. Refute it at one input. -/
def policyPlainWrong : ChangeSpec := { name := "policyPlain", fn := fun _ => fun
  | [d1, d2] => { results := [.lit (.bool false)], args := [d1, d2] }
  | _ => none }
def PolicyPlainWrongFalsely : Prop := policyPlainRow.holds Tryd.pinned (OpenSpec.ofChange policyPlainWrong)

/-- 'quaysidelaw17.PolicyTruth': WHATEVER THE INPUT: true; the input reads as it did. -/
def policyTruthSpec : ChangeSpec := { name := "policyTruth", fn := fun _ => fun
  | [d1, d2, d3] => { results := [.lit (.bool true)], args := [d1, d2, d3] }
  | _ => none }
def policyTruthRow : OpenClaim := { program := "ytocniclkooiggaadoor", sum := "002e8016911cf1d79a783202e4d30ca21f028336fe8edf822d3239837db82fc8", func := "quayside/quaysidelaw17.PolicyTruth", spec := "policyTruth", inPlace := ["internal/bytealg.IndexByteString", "internal/bytealg.IndexString", "internal/abi.NoEscape", "internal/bytealg.MakeNoZero"], named := ["unicode/utf8.first", "unicode/utf8.acceptRanges", "internal/bytealg.MaxLen", "quayside/httpdate.months", "quayside/httpdate.lengths", "quayside/httpdate.weekdays"], apart := false, laid := [("quayside/httpdate.weekdays", laid_quayside_httpdate_weekdays), ("quayside/httpdate.months", laid_quayside_httpdate_months), ("quayside/httpdate.lengths", laid_quayside_httpdate_lengths), ("unicode/utf8.acceptRanges", laid_unicode_utf8_acceptRanges), ("unicode/utf8.first", laid_unicode_utf8_first)] }
def PolicyTruthSaid : Prop := policyTruthRow.holds Tryd.pinned (OpenSpec.ofChange policyTruthSpec)

/-- ITS FALSE NEIGHBOUR: 'it returns false'. Refute it at one input. -/
def policyTruthWrong : ChangeSpec := { name := "policyTruth", fn := fun _ => fun
  | [d1, d2, d3] => { results := [.lit (.bool false)], args := [d1, d2, d3] }
  | _ => none }
def PolicyTruthWrongFalsely : Prop := policyTruthRow.holds Tryd.pinned (OpenSpec.ofChange policyTruthWrong)

/- THE SECOND FORM. 'bulk': how many values and letters a reading holds, each counted each time it is reached (what is shared counts as often as it is met; a slice's spare places count too). A statement '..UptoSaid' is the law's where the arguments, and the package variables that the reading takes, are together of bulk at most 1048576: NARROWER than '..Said'. Prove '..Said' where nothing that the law and all that it calls make is longer than what came in: it says more and counts as full. Else prove '..UptoSaid'. A law counts once. -/
mutual
def uptoBulk {H : Type} : DataW H → Nat
  | .lit (.string bytes) => bytes.length + 1
  | .lit _ => 1
  | .nil => 1
  | .ptr d => uptoBulk d + 1
  | .slice elems spare => uptoBulkAll elems + uptoBulkAll spare + 1
  | .agg parts => uptoBulkAll parts + 1
  | .iface _ d => uptoBulk d + 1
  | .map entries => uptoBulkEntries entries + 1
  | .held _ => 1
def uptoBulkAll {H : Type} : List (DataW H) → Nat
  | [] => 0
  | d :: r => uptoBulk d + uptoBulkAll r
def uptoBulkEntries {H : Type} : List (Lit × DataW H) → Nat
  | [] => 0
  | x :: r => uptoBulkEntry x + uptoBulkEntries r
def uptoBulkEntry {H : Type} : Lit × DataW H → Nat
  | (.string bytes, d) => bytes.length + uptoBulk d + 1
  | (_, d) => uptoBulk d + 1
 end
def uptoSmall : (H : Type) → List (DataW H) → Bool := fun _ ds => decide (uptoBulkAll ds ≤ 1048576)
def OpenSpec.upto (s : _root_.Go.ChangeSpec) : _root_.Go.OpenSpec := { _root_.Go.OpenSpec.ofChange s with cond := some uptoSmall }

/-- 'quaysidetop.WholeFreshness', WHERE WHAT IT READS IS OF BULK AT MOST 1048576: true; the input reads as it did. -/
def wholeFreshnessUptoRow : OpenClaim := { program := "ytocniclkooiggaadoor", sum := "002e8016911cf1d79a783202e4d30ca21f028336fe8edf822d3239837db82fc8", func := "quayside/quaysidetop.WholeFreshness", spec := "wholeFreshness", inPlace := ["internal/bytealg.IndexByteString", "internal/bytealg.IndexString", "internal/abi.NoEscape", "internal/bytealg.MakeNoZero"], recurses := true, named := ["unicode/utf8.first", "unicode/utf8.acceptRanges", "internal/bytealg.MaxLen", "quayside/httpdate.months", "quayside/httpdate.lengths", "quayside/httpdate.weekdays"], apart := false, laid := [("quayside/httpdate.weekdays", laid_quayside_httpdate_weekdays), ("quayside/httpdate.months", laid_quayside_httpdate_months), ("quayside/httpdate.lengths", laid_quayside_httpdate_lengths), ("unicode/utf8.acceptRanges", laid_unicode_utf8_acceptRanges), ("unicode/utf8.first", laid_unicode_utf8_first)], narrowed := true }
def WholeFreshnessUptoSaid : Prop := wholeFreshnessUptoRow.holds Tryd.pinned (OpenSpec.upto wholeFreshnessSpec)

/-- 'quaysidelaw17.PolicyStricter', WHERE WHAT IT READS IS OF BULK AT MOST 1048576: true; the input reads as it did. -/
def policyStricterUptoRow : OpenClaim := { program := "ytocniclkooiggaadoor", sum := "002e8016911cf1d79a783202e4d30ca21f028336fe8edf822d3239837db82fc8", func := "quayside/quaysidelaw17.PolicyStricter", spec := "policyStricter", inPlace := ["internal/bytealg.IndexByteString", "internal/bytealg.IndexString", "internal/abi.NoEscape", "internal/bytealg.MakeNoZero"], named := ["unicode/utf8.first", "unicode/utf8.acceptRanges", "internal/bytealg.MaxLen", "quayside/httpdate.months", "quayside/httpdate.lengths", "quayside/httpdate.weekdays"], apart := false, laid := [("quayside/httpdate.weekdays", laid_quayside_httpdate_weekdays), ("quayside/httpdate.months", laid_quayside_httpdate_months), ("quayside/httpdate.lengths", laid_quayside_httpdate_lengths), ("unicode/utf8.acceptRanges", laid_unicode_utf8_acceptRanges), ("unicode/utf8.first", laid_unicode_utf8_first)], narrowed := true }
def PolicyStricterUptoSaid : Prop := policyStricterUptoRow.holds Tryd.pinned (OpenSpec.upto policyStricterSpec)

/-- 'quaysidelaw17.PolicyLater', WHERE WHAT IT READS IS OF BULK AT MOST 1048576: true; the input reads as it did. -/
def policyLaterUptoRow : OpenClaim := { program := "ytocniclkooiggaadoor", sum := "002e8016911cf1d79a783202e4d30ca21f028336fe8edf822d3239837db82fc8", func := "quayside/quaysidelaw17.PolicyLater", spec := "policyLater", inPlace := ["internal/bytealg.IndexByteString", "internal/bytealg.IndexString", "internal/abi.NoEscape", "internal/bytealg.MakeNoZero"], named := ["unicode/utf8.first", "unicode/utf8.acceptRanges", "internal/bytealg.MaxLen", "quayside/httpdate.months", "quayside/httpdate.lengths", "quayside/httpdate.weekdays"], apart := false, laid := [("quayside/httpdate.weekdays", laid_quayside_httpdate_weekdays), ("quayside/httpdate.months", laid_quayside_httpdate_months), ("quayside/httpdate.lengths", laid_quayside_httpdate_lengths), ("unicode/utf8.acceptRanges", laid_unicode_utf8_acceptRanges), ("unicode/utf8.first", laid_unicode_utf8_first)], narrowed := true }
def PolicyLaterUptoSaid : Prop := policyLaterUptoRow.holds Tryd.pinned (OpenSpec.upto policyLaterSpec)

/-- 'quaysidelaw17.PolicyValidators', WHERE WHAT IT READS IS OF BULK AT MOST 1048576: true; the input reads as it did. -/
def policyValidatorsUptoRow : OpenClaim := { program := "ytocniclkooiggaadoor", sum := "002e8016911cf1d79a783202e4d30ca21f028336fe8edf822d3239837db82fc8", func := "quayside/quaysidelaw17.PolicyValidators", spec := "policyValidators", inPlace := ["internal/bytealg.IndexByteString", "internal/bytealg.IndexString", "internal/abi.NoEscape", "internal/bytealg.MakeNoZero"], named := ["unicode/utf8.first", "unicode/utf8.acceptRanges", "internal/bytealg.MaxLen", "quayside/httpdate.months", "quayside/httpdate.lengths", "quayside/httpdate.weekdays"], apart := false, laid := [("quayside/httpdate.weekdays", laid_quayside_httpdate_weekdays), ("quayside/httpdate.months", laid_quayside_httpdate_months), ("quayside/httpdate.lengths", laid_quayside_httpdate_lengths), ("unicode/utf8.acceptRanges", laid_unicode_utf8_acceptRanges), ("unicode/utf8.first", laid_unicode_utf8_first)], narrowed := true }
def PolicyValidatorsUptoSaid : Prop := policyValidatorsUptoRow.holds Tryd.pinned (OpenSpec.upto policyValidatorsSpec)

/-- 'quaysidelaw17.PolicyPlain', WHERE WHAT IT READS IS OF BULK AT MOST 1048576: true; the input reads as it did. -/
def policyPlainUptoRow : OpenClaim := { program := "ytocniclkooiggaadoor", sum := "002e8016911cf1d79a783202e4d30ca21f028336fe8edf822d3239837db82fc8", func := "quayside/quaysidelaw17.PolicyPlain", spec := "policyPlain", inPlace := ["internal/bytealg.IndexByteString", "internal/bytealg.IndexString", "internal/abi.NoEscape", "internal/bytealg.MakeNoZero"], named := ["unicode/utf8.first", "unicode/utf8.acceptRanges", "internal/bytealg.MaxLen", "quayside/httpdate.months", "quayside/httpdate.lengths", "quayside/httpdate.weekdays"], apart := false, laid := [("quayside/httpdate.weekdays", laid_quayside_httpdate_weekdays), ("quayside/httpdate.months", laid_quayside_httpdate_months), ("quayside/httpdate.lengths", laid_quayside_httpdate_lengths), ("unicode/utf8.acceptRanges", laid_unicode_utf8_acceptRanges), ("unicode/utf8.first", laid_unicode_utf8_first)], narrowed := true }
def PolicyPlainUptoSaid : Prop := policyPlainUptoRow.holds Tryd.pinned (OpenSpec.upto policyPlainSpec)

/-- 'quaysidelaw17.PolicyTruth', WHERE WHAT IT READS IS OF BULK AT MOST 1048576: true; the input reads as it did. -/
def policyTruthUptoRow : OpenClaim := { program := "ytocniclkooiggaadoor", sum := "002e8016911cf1d79a783202e4d30ca21f028336fe8edf822d3239837db82fc8", func := "quayside/quaysidelaw17.PolicyTruth", spec := "policyTruth", inPlace := ["internal/bytealg.IndexByteString", "internal/bytealg.IndexString", "internal/abi.NoEscape", "internal/bytealg.MakeNoZero"], named := ["unicode/utf8.first", "unicode/utf8.acceptRanges", "internal/bytealg.MaxLen", "quayside/httpdate.months", "quayside/httpdate.lengths", "quayside/httpdate.weekdays"], apart := false, laid := [("quayside/httpdate.weekdays", laid_quayside_httpdate_weekdays), ("quayside/httpdate.months", laid_quayside_httpdate_months), ("quayside/httpdate.lengths", laid_quayside_httpdate_lengths), ("unicode/utf8.acceptRanges", laid_unicode_utf8_acceptRanges), ("unicode/utf8.first", laid_unicode_utf8_first)], narrowed := true }
def PolicyTruthUptoSaid : Prop := policyTruthUptoRow.holds Tryd.pinned (OpenSpec.upto policyTruthSpec)

end Rows
end Go.Proofs.YtocniclkooiggaaDoor
