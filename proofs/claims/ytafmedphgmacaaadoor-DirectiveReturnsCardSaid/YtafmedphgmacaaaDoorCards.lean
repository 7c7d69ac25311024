/-
  DERIVED. GIVEN WITH THE SEED: THE CARDS: each row of YtafmedphgmacaaaDoorRows.lean that lists a variable, with what it lists TIED to the program's text (the seventh form; the later family's looks); each row that meets fmt, with fmt's text TOLD by the authors' own Lean function (tested against real Go, not proved from fmt's source: count such statements apart). THE CARD IS WHAT COUNTS. Prove the row's statement (the work); the ties are given (YtafmedphgmacaaaDoorTie.lean); close each card by the builder's one call (the guide's Derived/Test/ToyasCard.lean, 'card_holds'). Laid BY PROGRAM, IN A SANDBOX (cutbox-door.mjs). By AI agents, Wed Nov 11 2026. No macro, syntax, notation, axiom, sorry.
-/
import Derived.Test.YtafmedphgmacaaaDoorRows
import GoSem.ClaimSeven
namespace Go.Proofs.YtafmedphgmacaaaDoor
namespace Rows

/-- THE TIED CARD OF 'quaysidelaw11.DirectiveMerges'. -/
def directiveMergesCard : Claim7 := { stood := { row := directiveMergesRow, standIns := [], harness := (true, "549cd8fbded93f8d1d33b7b53117a9167903a0a195b4f3e1938fdb4ab951f3f6"), looks := false }, kinds := [], alts := [], laidByText := true, laidKinds := [.data, .pinned], laidTests := true, laidLooks := .later }
def DirectiveMergesCardSaid : Prop := Claim7.holds Tryd.pinned (.plain (OpenSpec.ofChange directiveMergesSpec)) directiveMergesCard

/-- THE TIED CARD OF 'quaysidelaw11.DirectiveLattice'. -/
def directiveLatticeCard : Claim7 := { stood := { row := directiveLatticeRow, standIns := [], harness := (true, "549cd8fbded93f8d1d33b7b53117a9167903a0a195b4f3e1938fdb4ab951f3f6"), looks := false }, kinds := [], alts := [], laidByText := true, laidKinds := [.data, .pinned], laidTests := true, laidLooks := .later }
def DirectiveLatticeCardSaid : Prop := Claim7.holds Tryd.pinned (.plain (OpenSpec.ofChange directiveLatticeSpec)) directiveLatticeCard

/-- THE TIED CARD OF 'quaysidelaw11.DirectiveFormats'. -/
def directiveFormatsCard : Claim7 := { stood := { row := directiveFormatsRow, standIns := [], harness := (true, "549cd8fbded93f8d1d33b7b53117a9167903a0a195b4f3e1938fdb4ab951f3f6"), looks := false }, kinds := [], alts := [], laidByText := true, laidKinds := [.data, .data, .data, .data, .pinned], laidTests := true, laidLooks := .later }
def DirectiveFormatsCardSaid : Prop := Claim7.holds Tryd.pinned (.plain (OpenSpec.ofChange directiveFormatsSpec)) directiveFormatsCard

/-- THE TIED CARD OF 'quaysidelaw11.DirectiveReturns'. -/
def directiveReturnsCard : Claim7 := { stood := { row := directiveReturnsRow, standIns := [], harness := (true, "549cd8fbded93f8d1d33b7b53117a9167903a0a195b4f3e1938fdb4ab951f3f6"), looks := false }, kinds := [], alts := [], laidByText := true, laidKinds := [.data, .data, .data, .data, .pinned], laidTests := true, laidLooks := .later }
def DirectiveReturnsCardSaid : Prop := Claim7.holds Tryd.pinned (.plain (OpenSpec.ofChange directiveReturnsSpec)) directiveReturnsCard

/-- THE SECOND FORM's CARD OF 'quaysidelaw11.DirectiveMerges'. -/
def directiveMergesUptoCard : Claim7 := { stood := { row := directiveMergesUptoRow, standIns := [], harness := (true, "549cd8fbded93f8d1d33b7b53117a9167903a0a195b4f3e1938fdb4ab951f3f6"), looks := false }, kinds := [], alts := [], laidByText := true, laidKinds := [.data, .pinned], laidTests := true, laidLooks := .later }
def DirectiveMergesUptoCardSaid : Prop := Claim7.holds Tryd.pinned (.plain (OpenSpec.upto directiveMergesSpec)) directiveMergesUptoCard

/-- THE SECOND FORM's CARD OF 'quaysidelaw11.DirectiveLattice'. -/
def directiveLatticeUptoCard : Claim7 := { stood := { row := directiveLatticeUptoRow, standIns := [], harness := (true, "549cd8fbded93f8d1d33b7b53117a9167903a0a195b4f3e1938fdb4ab951f3f6"), looks := false }, kinds := [], alts := [], laidByText := true, laidKinds := [.data, .pinned], laidTests := true, laidLooks := .later }
def DirectiveLatticeUptoCardSaid : Prop := Claim7.holds Tryd.pinned (.plain (OpenSpec.upto directiveLatticeSpec)) directiveLatticeUptoCard

/-- THE SECOND FORM's CARD OF 'quaysidelaw11.DirectiveFormats'. -/
def directiveFormatsUptoCard : Claim7 := { stood := { row := directiveFormatsUptoRow, standIns := [], harness := (true, "549cd8fbded93f8d1d33b7b53117a9167903a0a195b4f3e1938fdb4ab951f3f6"), looks := false }, kinds := [], alts := [], laidByText := true, laidKinds := [.data, .data, .data, .data, .pinned], laidTests := true, laidLooks := .later }
def DirectiveFormatsUptoCardSaid : Prop := Claim7.holds Tryd.pinned (.plain (OpenSpec.upto directiveFormatsSpec)) directiveFormatsUptoCard

/-- THE SECOND FORM's CARD OF 'quaysidelaw11.DirectiveReturns'. -/
def directiveReturnsUptoCard : Claim7 := { stood := { row := directiveReturnsUptoRow, standIns := [], harness := (true, "549cd8fbded93f8d1d33b7b53117a9167903a0a195b4f3e1938fdb4ab951f3f6"), looks := false }, kinds := [], alts := [], laidByText := true, laidKinds := [.data, .data, .data, .data, .pinned], laidTests := true, laidLooks := .later }
def DirectiveReturnsUptoCardSaid : Prop := Claim7.holds Tryd.pinned (.plain (OpenSpec.upto directiveReturnsSpec)) directiveReturnsUptoCard
end Rows
end Go.Proofs.YtafmedphgmacaaaDoor
