/-
  DERIVED. GIVEN WITH THE SEED: THE CARDS: each row of YtocniclkooiggaaDoorRows.lean that lists a variable, with what it lists TIED to the program's text (the seventh form; the later family's looks); each row that meets fmt, with fmt's text TOLD by the authors' own Lean function (tested against real Go, not proved from fmt's source: count such statements apart). THE CARD IS WHAT COUNTS. Prove the row's statement (the work); the ties are given (YtocniclkooiggaaDoorTie.lean); close each card by the builder's one call (the guide's Derived/Test/ToyasCard.lean, 'card_holds'). Laid BY PROGRAM, IN A SANDBOX (cutbox-door.mjs). By AI agents, Wed Nov 11 2026. No macro, syntax, notation, axiom, sorry.
-/
import Derived.Test.YtocniclkooiggaaDoorRows
import GoSem.ClaimSeven
namespace Go.Proofs.YtocniclkooiggaaDoor
namespace Rows

/-- THE TIED CARD OF 'quaysidetop.WholeFreshness'. -/
def wholeFreshnessCard : Claim7 := { stood := { row := wholeFreshnessRow, standIns := [], harness := (true, "1d254e9905f6abadfa9261a12c76db7d18ba97ae3caea045a9756682afeb1945"), looks := false }, kinds := [], alts := [], laidByText := true, laidKinds := [.data, .data, .data, .data, .pinned], laidTests := true, laidLooks := .later }
def WholeFreshnessCardSaid : Prop := Claim7.holds Tryd.pinned (.plain (OpenSpec.ofChange wholeFreshnessSpec)) wholeFreshnessCard

/-- THE TIED CARD OF 'quaysidelaw17.PolicyStricter'. -/
def policyStricterCard : Claim7 := { stood := { row := policyStricterRow, standIns := [], harness := (true, "1d254e9905f6abadfa9261a12c76db7d18ba97ae3caea045a9756682afeb1945"), looks := false }, kinds := [], alts := [], laidByText := true, laidKinds := [.data, .data, .data, .data, .pinned], laidTests := true, laidLooks := .later }
def PolicyStricterCardSaid : Prop := Claim7.holds Tryd.pinned (.plain (OpenSpec.ofChange policyStricterSpec)) policyStricterCard

/-- THE TIED CARD OF 'quaysidelaw17.PolicyLater'. -/
def policyLaterCard : Claim7 := { stood := { row := policyLaterRow, standIns := [], harness := (true, "1d254e9905f6abadfa9261a12c76db7d18ba97ae3caea045a9756682afeb1945"), looks := false }, kinds := [], alts := [], laidByText := true, laidKinds := [.data, .data, .data, .data, .pinned], laidTests := true, laidLooks := .later }
def PolicyLaterCardSaid : Prop := Claim7.holds Tryd.pinned (.plain (OpenSpec.ofChange policyLaterSpec)) policyLaterCard

/-- THE TIED CARD OF 'quaysidelaw17.PolicyValidators'. -/
def policyValidatorsCard : Claim7 := { stood := { row := policyValidatorsRow, standIns := [], harness := (true, "1d254e9905f6abadfa9261a12c76db7d18ba97ae3caea045a9756682afeb1945"), looks := false }, kinds := [], alts := [], laidByText := true, laidKinds := [.data, .data, .data, .data, .pinned], laidTests := true, laidLooks := .later }
def PolicyValidatorsCardSaid : Prop := Claim7.holds Tryd.pinned (.plain (OpenSpec.ofChange policyValidatorsSpec)) policyValidatorsCard

/-- THE TIED CARD OF 'quaysidelaw17.PolicyPlain'. -/
def policyPlainCard : Claim7 := { stood := { row := policyPlainRow, standIns := [], harness := (true, "1d254e9905f6abadfa9261a12c76db7d18ba97ae3caea045a9756682afeb1945"), looks := false }, kinds := [], alts := [], laidByText := true, laidKinds := [.data, .data, .data, .data, .pinned], laidTests := true, laidLooks := .later }
def PolicyPlainCardSaid : Prop := Claim7.holds Tryd.pinned (.plain (OpenSpec.ofChange policyPlainSpec)) policyPlainCard

/-- THE TIED CARD OF 'quaysidelaw17.PolicyTruth'. -/
def policyTruthCard : Claim7 := { stood := { row := policyTruthRow, standIns := [], harness := (true, "1d254e9905f6abadfa9261a12c76db7d18ba97ae3caea045a9756682afeb1945"), looks := false }, kinds := [], alts := [], laidByText := true, laidKinds := [.data, .data, .data, .data, .pinned], laidTests := true, laidLooks := .later }
def PolicyTruthCardSaid : Prop := Claim7.holds Tryd.pinned (.plain (OpenSpec.ofChange policyTruthSpec)) policyTruthCard

/-- THE SECOND FORM's CARD OF 'quaysidetop.WholeFreshness'. -/
def wholeFreshnessUptoCard : Claim7 := { stood := { row := wholeFreshnessUptoRow, standIns := [], harness := (true, "1d254e9905f6abadfa9261a12c76db7d18ba97ae3caea045a9756682afeb1945"), looks := false }, kinds := [], alts := [], laidByText := true, laidKinds := [.data, .data, .data, .data, .pinned], laidTests := true, laidLooks := .later }
def WholeFreshnessUptoCardSaid : Prop := Claim7.holds Tryd.pinned (.plain (OpenSpec.upto wholeFreshnessSpec)) wholeFreshnessUptoCard

/-- THE SECOND FORM's CARD OF 'quaysidelaw17.PolicyStricter'. -/
def policyStricterUptoCard : Claim7 := { stood := { row := policyStricterUptoRow, standIns := [], harness := (true, "1d254e9905f6abadfa9261a12c76db7d18ba97ae3caea045a9756682afeb1945"), looks := false }, kinds := [], alts := [], laidByText := true, laidKinds := [.data, .data, .data, .data, .pinned], laidTests := true, laidLooks := .later }
def PolicyStricterUptoCardSaid : Prop := Claim7.holds Tryd.pinned (.plain (OpenSpec.upto policyStricterSpec)) policyStricterUptoCard

/-- THE SECOND FORM's CARD OF 'quaysidelaw17.PolicyLater'. -/
def policyLaterUptoCard : Claim7 := { stood := { row := policyLaterUptoRow, standIns := [], harness := (true, "1d254e9905f6abadfa9261a12c76db7d18ba97ae3caea045a9756682afeb1945"), looks := false }, kinds := [], alts := [], laidByText := true, laidKinds := [.data, .data, .data, .data, .pinned], laidTests := true, laidLooks := .later }
def PolicyLaterUptoCardSaid : Prop := Claim7.holds Tryd.pinned (.plain (OpenSpec.upto policyLaterSpec)) policyLaterUptoCard

/-- THE SECOND FORM's CARD OF 'quaysidelaw17.PolicyValidators'. -/
def policyValidatorsUptoCard : Claim7 := { stood := { row := policyValidatorsUptoRow, standIns := [], harness := (true, "1d254e9905f6abadfa9261a12c76db7d18ba97ae3caea045a9756682afeb1945"), looks := false }, kinds := [], alts := [], laidByText := true, laidKinds := [.data, .data, .data, .data, .pinned], laidTests := true, laidLooks := .later }
def PolicyValidatorsUptoCardSaid : Prop := Claim7.holds Tryd.pinned (.plain (OpenSpec.upto policyValidatorsSpec)) policyValidatorsUptoCard

/-- THE SECOND FORM's CARD OF 'quaysidelaw17.PolicyPlain'. -/
def policyPlainUptoCard : Claim7 := { stood := { row := policyPlainUptoRow, standIns := [], harness := (true, "1d254e9905f6abadfa9261a12c76db7d18ba97ae3caea045a9756682afeb1945"), looks := false }, kinds := [], alts := [], laidByText := true, laidKinds := [.data, .data, .data, .data, .pinned], laidTests := true, laidLooks := .later }
def PolicyPlainUptoCardSaid : Prop := Claim7.holds Tryd.pinned (.plain (OpenSpec.upto policyPlainSpec)) policyPlainUptoCard

/-- THE SECOND FORM's CARD OF 'quaysidelaw17.PolicyTruth'. -/
def policyTruthUptoCard : Claim7 := { stood := { row := policyTruthUptoRow, standIns := [], harness := (true, "1d254e9905f6abadfa9261a12c76db7d18ba97ae3caea045a9756682afeb1945"), looks := false }, kinds := [], alts := [], laidByText := true, laidKinds := [.data, .data, .data, .data, .pinned], laidTests := true, laidLooks := .later }
def PolicyTruthUptoCardSaid : Prop := Claim7.holds Tryd.pinned (.plain (OpenSpec.upto policyTruthSpec)) policyTruthUptoCard
end Rows
end Go.Proofs.YtocniclkooiggaaDoor
