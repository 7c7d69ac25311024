/-
  No cell of these rows narrows 'for every input' (looked for: loops, veiled, ifaces, maps, wideKeys, modest, calm, conditions, laid).
  DERIVED. THE GIVEN ROWS OF THIS SEAT. 5 by the template 'for every input the law returns true; each argument reads behind the call as it read before'; 0 by the template 'total and deterministic' (their statements: YteibmmhdlikckaaTotals.lean).
  GIVEN WITH THE SEED: the statements are not yours to turn. If you find one false, say at which input.
  Laid BY PROGRAM, IN A SANDBOX (cutbox-rows.mjs): the forced cells as the released guide's own fill.sh prints them over the translation 8284f3afd4f8f15c… (all of the seat's roots in one cut). By AI agents, Wed Nov 11 2026. No macro, syntax, notation, axiom, sorry.
-/
import Derived.Test.YteibmmhdlikckaaChecked
import GoSem.Claim
import GoSem.ClaimJoined
import GoSem.ClaimMapViews
import Derived.JoinedTies
import Derived.KernelRfl
namespace Go.Proofs.Yteibmmhdlikckaa
/- THE CELL 'sum', in the pinned program and in every row, IS THE sha256 OF THE DUMP (.gsa) THAT YteibmmhdlikckaaProg.lean LOADS. Nothing in Lean hashes anything: it is a label: what it is worth is what the hold of that sum in a sandbox is worth. -/
noncomputable def Try.pinned : Pinned := { name := "yteibmmhdlikckaa", sum := "8284f3afd4f8f15c233beb2e1ffbb9f81cb15c9fca1cba4bdbc3e6a50d360fa2", checked := Try.checked }
namespace Rows
def none {H : Type} : Left H := { results := [], args := [] }

/-- 'quaysidelaw02.FieldGets': WHATEVER THE INPUT: true; the input reads as it did. -/
def fieldGetsSpec : ChangeSpec := { name := "fieldGets", fn := fun _ => fun
  | [d1, d2] => { results := [.lit (.bool true)], args := [d1, d2] }
  | _ => none }
def fieldGetsRow : OpenClaim := { program := "yteibmmhdlikckaa", sum := "8284f3afd4f8f15c233beb2e1ffbb9f81cb15c9fca1cba4bdbc3e6a50d360fa2", func := "quayside/quaysidelaw02.FieldGets", spec := "fieldGets", inPlace := ["internal/abi.NoEscape", "internal/bytealg.MakeNoZero"], apart := false }
def FieldGetsSaid : Prop := fieldGetsRow.holds Try.pinned (OpenSpec.ofChange fieldGetsSpec)

/-- ITS FALSE NEIGHBOUR: 'it returns false'. Refute it at one input. -/
def fieldGetsWrong : ChangeSpec := { name := "fieldGets", fn := fun _ => fun
  | [d1, d2] => { results := [.lit (.bool false)], args := [d1, d2] }
  | _ => none }
def FieldGetsWrongFalsely : Prop := fieldGetsRow.holds Try.pinned (OpenSpec.ofChange fieldGetsWrong)

/-- 'quaysidelaw02.FieldSame': WHATEVER THE INPUT: true; the input reads as it did. -/
def fieldSameSpec : ChangeSpec := { name := "fieldSame", fn := fun _ => fun
  | [d1, d2] => { results := [.lit (.bool true)], args := [d1, d2] }
  | _ => none }
def fieldSameRow : OpenClaim := { program := "yteibmmhdlikckaa", sum := "8284f3afd4f8f15c233beb2e1ffbb9f81cb15c9fca1cba4bdbc3e6a50d360fa2", func := "quayside/quaysidelaw02.FieldSame", spec := "fieldSame", inPlace := ["internal/abi.NoEscape", "internal/bytealg.MakeNoZero"], apart := false }
def FieldSameSaid : Prop := fieldSameRow.holds Try.pinned (OpenSpec.ofChange fieldSameSpec)

/-- ITS FALSE NEIGHBOUR: 'it returns false'. Refute it at one input. -/
def fieldSameWrong : ChangeSpec := { name := "fieldSame", fn := fun _ => fun
  | [d1, d2] => { results := [.lit (.bool false)], args := [d1, d2] }
  | _ => none }
def FieldSameWrongFalsely : Prop := fieldSameRow.holds Try.pinned (OpenSpec.ofChange fieldSameWrong)

/-- 'quaysidelaw02.FieldMoves': WHATEVER THE INPUT: true; the input reads as it did. -/
def fieldMovesSpec : ChangeSpec := { name := "fieldMoves", fn := fun _ => fun
  | [d1, d2] => { results := [.lit (.bool true)], args := [d1, d2] }
  | _ => none }
def fieldMovesRow : OpenClaim := { program := "yteibmmhdlikckaa", sum := "8284f3afd4f8f15c233beb2e1ffbb9f81cb15c9fca1cba4bdbc3e6a50d360fa2", func := "quayside/quaysidelaw02.FieldMoves", spec := "fieldMoves", inPlace := ["internal/abi.NoEscape", "internal/bytealg.MakeNoZero"], apart := false }
def FieldMovesSaid : Prop := fieldMovesRow.holds Try.pinned (OpenSpec.ofChange fieldMovesSpec)

/-- ITS FALSE NEIGHBOUR: 'it returns false'. Refute it at one input. -/
def fieldMovesWrong : ChangeSpec := { name := "fieldMoves", fn := fun _ => fun
  | [d1, d2] => { results := [.lit (.bool false)], args := [d1, d2] }
  | _ => none }
def FieldMovesWrongFalsely : Prop := fieldMovesRow.holds Try.pinned (OpenSpec.ofChange fieldMovesWrong)

/-- 'quaysidelaw02.FieldSets': WHATEVER THE INPUT: true; the input reads as it did. -/
def fieldSetsSpec : ChangeSpec := { name := "fieldSets", fn := fun _ => fun
  | [d1, d2, d3] => { results := [.lit (.bool true)], args := [d1, d2, d3] }
  | _ => none }
def fieldSetsRow : OpenClaim := { program := "yteibmmhdlikckaa", sum := "8284f3afd4f8f15c233beb2e1ffbb9f81cb15c9fca1cba4bdbc3e6a50d360fa2", func := "quayside/quaysidelaw02.FieldSets", spec := "fieldSets", inPlace := ["internal/abi.NoEscape", "internal/bytealg.MakeNoZero"], apart := false }
def FieldSetsSaid : Prop := fieldSetsRow.holds Try.pinned (OpenSpec.ofChange fieldSetsSpec)

/-- ITS FALSE NEIGHBOUR: 'it returns false'. Refute it at one input. -/
def fieldSetsWrong : ChangeSpec := { name := "fieldSets", fn := fun _ => fun
  | [d1, d2, d3] => { results := [.lit (.bool false)], args := [d1, d2, d3] }
  | _ => none }
def FieldSetsWrongFalsely : Prop := fieldSetsRow.holds Try.pinned (OpenSpec.ofChange fieldSetsWrong)

/-- 'quaysidelaw02.FieldKeeps': WHATEVER THE INPUT: true; the input reads as it did. -/
def fieldKeepsSpec : ChangeSpec := { name := "fieldKeeps", fn := fun _ => fun
  | [d1, d2, d3] => { results := [.lit (.bool true)], args := [d1, d2, d3] }
  | _ => none }
def fieldKeepsRow : OpenClaim := { program := "yteibmmhdlikckaa", sum := "8284f3afd4f8f15c233beb2e1ffbb9f81cb15c9fca1cba4bdbc3e6a50d360fa2", func := "quayside/quaysidelaw02.FieldKeeps", spec := "fieldKeeps", inPlace := ["internal/abi.NoEscape", "internal/bytealg.MakeNoZero"], apart := false }
def FieldKeepsSaid : Prop := fieldKeepsRow.holds Try.pinned (OpenSpec.ofChange fieldKeepsSpec)

/-- ITS FALSE NEIGHBOUR: 'it returns false'. Refute it at one input. -/
def fieldKeepsWrong : ChangeSpec := { name := "fieldKeeps", fn := fun _ => fun
  | [d1, d2, d3] => { results := [.lit (.bool false)], args := [d1, d2, d3] }
  | _ => none }
def FieldKeepsWrongFalsely : Prop := fieldKeepsRow.holds Try.pinned (OpenSpec.ofChange fieldKeepsWrong)

/- THE SECOND FORM. 'bulk': how many values and letters a reading holds, each counted each time it is reached (what is shared counts as often as it is met; a slice's spare places count too). A statement '..UptoSaid' is the law's where the arguments, and the package variables that the reading takes, are together of bulk at most 1048576: NARROWER than '..Said'. Prove '..Said' where nothing that the law and all that it calls make is longer than what came in: it says more and counts as full. Else prove '..UptoSaid'. A law counts once. -/
mutual
def uptoBulk {H : Type} : DataW H → Nat
  | .lit (.string bytes) => bytes.length + 1
  | .lit _ => 1
  | .nil => 1
  | .ptr d => uptoBulk d + 1
  | .slice elems spare => uptoBulkAll elems + uptoBulkAll spare + 1
  | .agg parts => uptoBulkAll parts + 1
  | .iface _ d => uptoBulk d + 1
  | .map entries => uptoBulkEntries entries + 1
  | .held _ => 1
def uptoBulkAll {H : Type} : List (DataW H) → Nat
  | [] => 0
  | d :: r => uptoBulk d + uptoBulkAll r
def uptoBulkEntries {H : Type} : List (Lit × DataW H) → Nat
  | [] => 0
  | x :: r => uptoBulkEntry x + uptoBulkEntries r
def uptoBulkEntry {H : Type} : Lit × DataW H → Nat
  | (.string bytes, d) => bytes.length + uptoBulk d + 1
  | (_, d) => uptoBulk d + 1
 end
def uptoSmall : (H : Type) → List (DataW H) → Bool := fun _ ds => decide (uptoBulkAll ds ≤ 1048576)
def OpenSpec.upto (s : _root_.Go.ChangeSpec) : _root_.Go.OpenSpec := { _root_.Go.OpenSpec.ofChange s with cond := some uptoSmall }

/-- 'quaysidelaw02.FieldGets', WHERE WHAT IT READS IS OF BULK AT MOST 1048576: true; the input reads as it did. -/
def fieldGetsUptoRow : OpenClaim := { program := "yteibmmhdlikckaa", sum := "8284f3afd4f8f15c233beb2e1ffbb9f81cb15c9fca1cba4bdbc3e6a50d360fa2", func := "quayside/quaysidelaw02.FieldGets", spec := "fieldGets", inPlace := ["internal/abi.NoEscape", "internal/bytealg.MakeNoZero"], apart := false, narrowed := true }
def FieldGetsUptoSaid : Prop := fieldGetsUptoRow.holds Try.pinned (OpenSpec.upto fieldGetsSpec)

/-- 'quaysidelaw02.FieldSame', WHERE WHAT IT READS IS OF BULK AT MOST 1048576: true; the input reads as it did. -/
def fieldSameUptoRow : OpenClaim := { program := "yteibmmhdlikckaa", sum := "8284f3afd4f8f15c233beb2e1ffbb9f81cb15c9fca1cba4bdbc3e6a50d360fa2", func := "quayside/quaysidelaw02.FieldSame", spec := "fieldSame", inPlace := ["internal/abi.NoEscape", "internal/bytealg.MakeNoZero"], apart := false, narrowed := true }
def FieldSameUptoSaid : Prop := fieldSameUptoRow.holds Try.pinned (OpenSpec.upto fieldSameSpec)

/-- 'quaysidelaw02.FieldMoves', WHERE WHAT IT READS IS OF BULK AT MOST 1048576: true; the input reads as it did. -/
def fieldMovesUptoRow : OpenClaim := { program := "yteibmmhdlikckaa", sum := "8284f3afd4f8f15c233beb2e1ffbb9f81cb15c9fca1cba4bdbc3e6a50d360fa2", func := "quayside/quaysidelaw02.FieldMoves", spec := "fieldMoves", inPlace := ["internal/abi.NoEscape", "internal/bytealg.MakeNoZero"], apart := false, narrowed := true }
def FieldMovesUptoSaid : Prop := fieldMovesUptoRow.holds Try.pinned (OpenSpec.upto fieldMovesSpec)

/-- 'quaysidelaw02.FieldSets', WHERE WHAT IT READS IS OF BULK AT MOST 1048576: true; the input reads as it did. -/
def fieldSetsUptoRow : OpenClaim := { program := "yteibmmhdlikckaa", sum := "8284f3afd4f8f15c233beb2e1ffbb9f81cb15c9fca1cba4bdbc3e6a50d360fa2", func := "quayside/quaysidelaw02.FieldSets", spec := "fieldSets", inPlace := ["internal/abi.NoEscape", "internal/bytealg.MakeNoZero"], apart := false, narrowed := true }
def FieldSetsUptoSaid : Prop := fieldSetsUptoRow.holds Try.pinned (OpenSpec.upto fieldSetsSpec)

/-- 'quaysidelaw02.FieldKeeps', WHERE WHAT IT READS IS OF BULK AT MOST 1048576: true; the input reads as it did. -/
def fieldKeepsUptoRow : OpenClaim := { program := "yteibmmhdlikckaa", sum := "8284f3afd4f8f15c233beb2e1ffbb9f81cb15c9fca1cba4bdbc3e6a50d360fa2", func := "quayside/quaysidelaw02.FieldKeeps", spec := "fieldKeeps", inPlace := ["internal/abi.NoEscape", "internal/bytealg.MakeNoZero"], apart := false, narrowed := true }
def FieldKeepsUptoSaid : Prop := fieldKeepsUptoRow.holds Try.pinned (OpenSpec.upto fieldKeepsSpec)

end Rows
end Go.Proofs.Yteibmmhdlikckaa
