/-
  DERIVED. GIVEN WITH THE SEED: THE CARDS: each row of YteibmmhdlikckaaDoorRows.lean that lists a variable, with what it lists TIED to the program's text (the seventh form; the later family's looks); each row that meets fmt, with fmt's text TOLD by the authors' own Lean function (tested against real Go, not proved from fmt's source: count such statements apart). THE CARD IS WHAT COUNTS. Prove the row's statement (the work); the ties are given (YteibmmhdlikckaaDoorTie.lean); close each card by the builder's one call (the guide's Derived/Test/ToyasCard.lean, 'card_holds'). Laid BY PROGRAM, IN A SANDBOX (cutbox-door.mjs). By AI agents, Wed Nov 11 2026. No macro, syntax, notation, axiom, sorry.
-/
import Derived.Test.YteibmmhdlikckaaDoorRows
import GoSem.ClaimSeven
namespace Go.Proofs.YteibmmhdlikckaaDoor
namespace Rows

/-- THE TIED CARD OF 'quaysidelaw02.FieldNames'. -/
def fieldNamesCard : Claim7 := { stood := { row := fieldNamesRow, standIns := [], harness := (true, "65ddb62a0d358377df0aa7ee8335b8c4e5dcb6dc94604c71d512fa0a0761f8c0"), looks := true }, kinds := [], alts := [], laidByText := true, laidKinds := [.data, .pinned], laidTests := true, laidLooks := .later }
def FieldNamesCardSaid : Prop := Claim7.holds Tryd.pinned (.plain (OpenSpec.ofChange fieldNamesSpec)) fieldNamesCard

/-- THE TIED CARD OF 'quaysidelaw02.FieldChecks'. -/
def fieldChecksCard : Claim7 := { stood := { row := fieldChecksRow, standIns := [], harness := (true, "65ddb62a0d358377df0aa7ee8335b8c4e5dcb6dc94604c71d512fa0a0761f8c0"), looks := true }, kinds := [], alts := [], laidByText := true, laidKinds := [.data, .pinned], laidTests := true, laidLooks := .later }
def FieldChecksCardSaid : Prop := Claim7.holds Tryd.pinned (.plain (OpenSpec.ofChange fieldChecksSpec)) fieldChecksCard

/-- THE TIED CARD OF 'quaysidelaw02.FieldStrips'. -/
def fieldStripsCard : Claim7 := { stood := { row := fieldStripsRow, standIns := [], harness := (true, "65ddb62a0d358377df0aa7ee8335b8c4e5dcb6dc94604c71d512fa0a0761f8c0"), looks := true }, kinds := [], alts := [], laidByText := true, laidKinds := [.data, .pinned], laidTests := true, laidLooks := .later }
def FieldStripsCardSaid : Prop := Claim7.holds Tryd.pinned (.plain (OpenSpec.ofChange fieldStripsSpec)) fieldStripsCard

/-- THE SECOND FORM's CARD OF 'quaysidelaw02.FieldNames'. -/
def fieldNamesUptoCard : Claim7 := { stood := { row := fieldNamesUptoRow, standIns := [], harness := (true, "65ddb62a0d358377df0aa7ee8335b8c4e5dcb6dc94604c71d512fa0a0761f8c0"), looks := true }, kinds := [], alts := [], laidByText := true, laidKinds := [.data, .pinned], laidTests := true, laidLooks := .later }
def FieldNamesUptoCardSaid : Prop := Claim7.holds Tryd.pinned (.plain (OpenSpec.upto fieldNamesSpec)) fieldNamesUptoCard

/-- THE SECOND FORM's CARD OF 'quaysidelaw02.FieldChecks'. -/
def fieldChecksUptoCard : Claim7 := { stood := { row := fieldChecksUptoRow, standIns := [], harness := (true, "65ddb62a0d358377df0aa7ee8335b8c4e5dcb6dc94604c71d512fa0a0761f8c0"), looks := true }, kinds := [], alts := [], laidByText := true, laidKinds := [.data, .pinned], laidTests := true, laidLooks := .later }
def FieldChecksUptoCardSaid : Prop := Claim7.holds Tryd.pinned (.plain (OpenSpec.upto fieldChecksSpec)) fieldChecksUptoCard

/-- THE SECOND FORM's CARD OF 'quaysidelaw02.FieldStrips'. -/
def fieldStripsUptoCard : Claim7 := { stood := { row := fieldStripsUptoRow, standIns := [], harness := (true, "65ddb62a0d358377df0aa7ee8335b8c4e5dcb6dc94604c71d512fa0a0761f8c0"), looks := true }, kinds := [], alts := [], laidByText := true, laidKinds := [.data, .pinned], laidTests := true, laidLooks := .later }
def FieldStripsUptoCardSaid : Prop := Claim7.holds Tryd.pinned (.plain (OpenSpec.upto fieldStripsSpec)) fieldStripsUptoCard
end Rows
end Go.Proofs.YteibmmhdlikckaaDoor
