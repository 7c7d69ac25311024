/-
  DERIVED. GIVEN WITH THE SEED: THE CARDS: each row of YtaebbnadmfbdjaaDoorRows.lean that lists a variable, with what it lists TIED to the program's text (the seventh form; the later family's looks); each row that meets fmt, with fmt's text TOLD by the authors' own Lean function (tested against real Go, not proved from fmt's source: count such statements apart). THE CARD IS WHAT COUNTS. Prove the row's statement (the work); the ties are given (YtaebbnadmfbdjaaDoorTie.lean); close each card by the builder's one call (the guide's Derived/Test/ToyasCard.lean, 'card_holds'). Laid BY PROGRAM, IN A SANDBOX (cutbox-door.mjs). By AI agents, Wed Nov 11 2026. No macro, syntax, notation, axiom, sorry.
-/
import Derived.Test.YtaebbnadmfbdjaaDoorRows
import GoSem.ClaimSeven
namespace Go.Proofs.YtaebbnadmfbdjaaDoor
namespace Rows

/-- THE TIED CARD OF 'quaysidelaw11.DirectiveParses'. -/
def directiveParsesCard : Claim7 := { stood := { row := directiveParsesRow, standIns := [], harness := (true, "bbc107337ad9c62b60261710827fdf69766c48ea624376c79e8ef80c37b43b62"), looks := false }, kinds := [], alts := [], laidByText := true, laidKinds := [.data, .pinned], laidTests := true, laidLooks := .later }
def DirectiveParsesCardSaid : Prop := Claim7.holds Tryd.pinned (.plain (OpenSpec.ofChange directiveParsesSpec)) directiveParsesCard

/-- THE TIED CARD OF 'quaysidelaw11.DirectiveJoins'. -/
def directiveJoinsCard : Claim7 := { stood := { row := directiveJoinsRow, standIns := [], harness := (true, "bbc107337ad9c62b60261710827fdf69766c48ea624376c79e8ef80c37b43b62"), looks := false }, kinds := [], alts := [], laidByText := true, laidKinds := [.data, .pinned], laidTests := true, laidLooks := .later }
def DirectiveJoinsCardSaid : Prop := Claim7.holds Tryd.pinned (.plain (OpenSpec.ofChange directiveJoinsSpec)) directiveJoinsCard

/-- THE TIED CARD OF 'quaysidelaw11.DirectiveCases'. -/
def directiveCasesCard : Claim7 := { stood := { row := directiveCasesRow, standIns := [], harness := (true, "bbc107337ad9c62b60261710827fdf69766c48ea624376c79e8ef80c37b43b62"), looks := false }, kinds := [], alts := [], laidByText := true, laidKinds := [.data, .pinned], laidTests := true, laidLooks := .later }
def DirectiveCasesCardSaid : Prop := Claim7.holds Tryd.pinned (.plain (OpenSpec.ofChange directiveCasesSpec)) directiveCasesCard

/-- THE TIED CARD OF 'quaysidelaw11.DirectiveBroken'. -/
def directiveBrokenCard : Claim7 := { stood := { row := directiveBrokenRow, standIns := [], harness := (true, "bbc107337ad9c62b60261710827fdf69766c48ea624376c79e8ef80c37b43b62"), looks := false }, kinds := [], alts := [], laidByText := true, laidKinds := [.data, .pinned], laidTests := true, laidLooks := .later }
def DirectiveBrokenCardSaid : Prop := Claim7.holds Tryd.pinned (.plain (OpenSpec.ofChange directiveBrokenSpec)) directiveBrokenCard

/-- THE TIED CARD OF 'quaysidelaw11.DirectiveMerges'. -/
def directiveMergesCard : Claim7 := { stood := { row := directiveMergesRow, standIns := [], harness := (true, "bbc107337ad9c62b60261710827fdf69766c48ea624376c79e8ef80c37b43b62"), looks := false }, kinds := [], alts := [], laidByText := true, laidKinds := [.data, .pinned], laidTests := true, laidLooks := .later }
def DirectiveMergesCardSaid : Prop := Claim7.holds Tryd.pinned (.plain (OpenSpec.ofChange directiveMergesSpec)) directiveMergesCard

/-- THE TIED CARD OF 'quaysidelaw11.DirectiveLattice'. -/
def directiveLatticeCard : Claim7 := { stood := { row := directiveLatticeRow, standIns := [], harness := (true, "bbc107337ad9c62b60261710827fdf69766c48ea624376c79e8ef80c37b43b62"), looks := false }, kinds := [], alts := [], laidByText := true, laidKinds := [.data, .pinned], laidTests := true, laidLooks := .later }
def DirectiveLatticeCardSaid : Prop := Claim7.holds Tryd.pinned (.plain (OpenSpec.ofChange directiveLatticeSpec)) directiveLatticeCard

/-- THE TIED CARD OF 'quaysidelaw11.DirectiveFormats'. -/
def directiveFormatsCard : Claim7 := { stood := { row := directiveFormatsRow, standIns := [], harness := (true, "bbc107337ad9c62b60261710827fdf69766c48ea624376c79e8ef80c37b43b62"), looks := false }, kinds := [], alts := [], laidByText := true, laidKinds := [.data, .data, .data, .data, .pinned], laidTests := true, laidLooks := .later }
def DirectiveFormatsCardSaid : Prop := Claim7.holds Tryd.pinned (.plain (OpenSpec.ofChange directiveFormatsSpec)) directiveFormatsCard

/-- THE TIED CARD OF 'quaysidelaw11.DirectiveReturns'. -/
def directiveReturnsCard : Claim7 := { stood := { row := directiveReturnsRow, standIns := [], harness := (true, "bbc107337ad9c62b60261710827fdf69766c48ea624376c79e8ef80c37b43b62"), looks := false }, kinds := [], alts := [], laidByText := true, laidKinds := [.data, .data, .data, .data, .pinned], laidTests := true, laidLooks := .later }
def DirectiveReturnsCardSaid : Prop := Claim7.holds Tryd.pinned (.plain (OpenSpec.ofChange directiveReturnsSpec)) directiveReturnsCard

/-- THE SECOND FORM's CARD OF 'quaysidelaw11.DirectiveParses'. -/
def directiveParsesUptoCard : Claim7 := { stood := { row := directiveParsesUptoRow, standIns := [], harness := (true, "bbc107337ad9c62b60261710827fdf69766c48ea624376c79e8ef80c37b43b62"), looks := false }, kinds := [], alts := [], laidByText := true, laidKinds := [.data, .pinned], laidTests := true, laidLooks := .later }
def DirectiveParsesUptoCardSaid : Prop := Claim7.holds Tryd.pinned (.plain (OpenSpec.upto directiveParsesSpec)) directiveParsesUptoCard

/-- THE SECOND FORM's CARD OF 'quaysidelaw11.DirectiveJoins'. -/
def directiveJoinsUptoCard : Claim7 := { stood := { row := directiveJoinsUptoRow, standIns := [], harness := (true, "bbc107337ad9c62b60261710827fdf69766c48ea624376c79e8ef80c37b43b62"), looks := false }, kinds := [], alts := [], laidByText := true, laidKinds := [.data, .pinned], laidTests := true, laidLooks := .later }
def DirectiveJoinsUptoCardSaid : Prop := Claim7.holds Tryd.pinned (.plain (OpenSpec.upto directiveJoinsSpec)) directiveJoinsUptoCard

/-- THE SECOND FORM's CARD OF 'quaysidelaw11.DirectiveCases'. -/
def directiveCasesUptoCard : Claim7 := { stood := { row := directiveCasesUptoRow, standIns := [], harness := (true, "bbc107337ad9c62b60261710827fdf69766c48ea624376c79e8ef80c37b43b62"), looks := false }, kinds := [], alts := [], laidByText := true, laidKinds := [.data, .pinned], laidTests := true, laidLooks := .later }
def DirectiveCasesUptoCardSaid : Prop := Claim7.holds Tryd.pinned (.plain (OpenSpec.upto directiveCasesSpec)) directiveCasesUptoCard

/-- THE SECOND FORM's CARD OF 'quaysidelaw11.DirectiveBroken'. -/
def directiveBrokenUptoCard : Claim7 := { stood := { row := directiveBrokenUptoRow, standIns := [], harness := (true, "bbc107337ad9c62b60261710827fdf69766c48ea624376c79e8ef80c37b43b62"), looks := false }, kinds := [], alts := [], laidByText := true, laidKinds := [.data, .pinned], laidTests := true, laidLooks := .later }
def DirectiveBrokenUptoCardSaid : Prop := Claim7.holds Tryd.pinned (.plain (OpenSpec.upto directiveBrokenSpec)) directiveBrokenUptoCard

/-- THE SECOND FORM's CARD OF 'quaysidelaw11.DirectiveMerges'. -/
def directiveMergesUptoCard : Claim7 := { stood := { row := directiveMergesUptoRow, standIns := [], harness := (true, "bbc107337ad9c62b60261710827fdf69766c48ea624376c79e8ef80c37b43b62"), looks := false }, kinds := [], alts := [], laidByText := true, laidKinds := [.data, .pinned], laidTests := true, laidLooks := .later }
def DirectiveMergesUptoCardSaid : Prop := Claim7.holds Tryd.pinned (.plain (OpenSpec.upto directiveMergesSpec)) directiveMergesUptoCard

/-- THE SECOND FORM's CARD OF 'quaysidelaw11.DirectiveLattice'. -/
def directiveLatticeUptoCard : Claim7 := { stood := { row := directiveLatticeUptoRow, standIns := [], harness := (true, "bbc107337ad9c62b60261710827fdf69766c48ea624376c79e8ef80c37b43b62"), looks := false }, kinds := [], alts := [], laidByText := true, laidKinds := [.data, .pinned], laidTests := true, laidLooks := .later }
def DirectiveLatticeUptoCardSaid : Prop := Claim7.holds Tryd.pinned (.plain (OpenSpec.upto directiveLatticeSpec)) directiveLatticeUptoCard

/-- THE SECOND FORM's CARD OF 'quaysidelaw11.DirectiveFormats'. -/
def directiveFormatsUptoCard : Claim7 := { stood := { row := directiveFormatsUptoRow, standIns := [], harness := (true, "bbc107337ad9c62b60261710827fdf69766c48ea624376c79e8ef80c37b43b62"), looks := false }, kinds := [], alts := [], laidByText := true, laidKinds := [.data, .data, .data, .data, .pinned], laidTests := true, laidLooks := .later }
def DirectiveFormatsUptoCardSaid : Prop := Claim7.holds Tryd.pinned (.plain (OpenSpec.upto directiveFormatsSpec)) directiveFormatsUptoCard

/-- THE SECOND FORM's CARD OF 'quaysidelaw11.DirectiveReturns'. -/
def directiveReturnsUptoCard : Claim7 := { stood := { row := directiveReturnsUptoRow, standIns := [], harness := (true, "bbc107337ad9c62b60261710827fdf69766c48ea624376c79e8ef80c37b43b62"), looks := false }, kinds := [], alts := [], laidByText := true, laidKinds := [.data, .data, .data, .data, .pinned], laidTests := true, laidLooks := .later }
def DirectiveReturnsUptoCardSaid : Prop := Claim7.holds Tryd.pinned (.plain (OpenSpec.upto directiveReturnsSpec)) directiveReturnsUptoCard
end Rows
end Go.Proofs.YtaebbnadmfbdjaaDoor
