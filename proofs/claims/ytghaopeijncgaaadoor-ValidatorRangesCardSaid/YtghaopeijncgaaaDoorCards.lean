/-
  DERIVED. GIVEN WITH THE SEED: THE CARDS: each row of YtghaopeijncgaaaDoorRows.lean that lists a variable, with what it lists TIED to the program's text (the seventh form; the later family's looks); each row that meets fmt, with fmt's text TOLD by the authors' own Lean function (tested against real Go, not proved from fmt's source: count such statements apart). THE CARD IS WHAT COUNTS. Prove the row's statement (the work); the ties are given (YtghaopeijncgaaaDoorTie.lean); close each card by the builder's one call (the guide's Derived/Test/ToyasCard.lean, 'card_holds'). Laid BY PROGRAM, IN A SANDBOX (cutbox-door.mjs). By AI agents, Wed Nov 11 2026. No macro, syntax, notation, axiom, sorry.
-/
import Derived.Test.YtghaopeijncgaaaDoorRows
import GoSem.ClaimSeven
namespace Go.Proofs.YtghaopeijncgaaaDoor
namespace Rows

/-- THE TIED CARD OF 'quaysidelaw10.ValidatorReads'. -/
def validatorReadsCard : Claim7 := { stood := { row := validatorReadsRow, standIns := [], harness := (true, "c60b048320ee3051112bb1e679ca3e117a3ccf87cd2c72700f9578b8f2a5fab8"), looks := true }, kinds := [], alts := [], laidByText := true, laidKinds := [.data, .data, .data, .data, .pinned], laidTests := true, laidLooks := .later }
def ValidatorReadsCardSaid : Prop := Claim7.holds Tryd.pinned (.plain (OpenSpec.ofChange validatorReadsSpec)) validatorReadsCard

/-- THE TIED CARD OF 'quaysidelaw10.ValidatorLists'. -/
def validatorListsCard : Claim7 := { stood := { row := validatorListsRow, standIns := [], harness := (true, "c60b048320ee3051112bb1e679ca3e117a3ccf87cd2c72700f9578b8f2a5fab8"), looks := true }, kinds := [], alts := [], laidByText := true, laidKinds := [.data, .data, .data, .data, .pinned], laidTests := true, laidLooks := .later }
def ValidatorListsCardSaid : Prop := Claim7.holds Tryd.pinned (.plain (OpenSpec.ofChange validatorListsSpec)) validatorListsCard

/-- THE TIED CARD OF 'quaysidelaw10.ValidatorCompares'. -/
def validatorComparesCard : Claim7 := { stood := { row := validatorComparesRow, standIns := [], harness := (true, "c60b048320ee3051112bb1e679ca3e117a3ccf87cd2c72700f9578b8f2a5fab8"), looks := true }, kinds := [], alts := [], laidByText := true, laidKinds := [.data, .data, .data, .data, .pinned], laidTests := true, laidLooks := .later }
def ValidatorComparesCardSaid : Prop := Claim7.holds Tryd.pinned (.plain (OpenSpec.ofChange validatorComparesSpec)) validatorComparesCard

/-- THE TIED CARD OF 'quaysidelaw10.ValidatorTags'. -/
def validatorTagsCard : Claim7 := { stood := { row := validatorTagsRow, standIns := [], harness := (true, "c60b048320ee3051112bb1e679ca3e117a3ccf87cd2c72700f9578b8f2a5fab8"), looks := true }, kinds := [], alts := [], laidByText := true, laidKinds := [.data, .data, .data, .data, .pinned], laidTests := true, laidLooks := .later }
def ValidatorTagsCardSaid : Prop := Claim7.holds Tryd.pinned (.plain (OpenSpec.ofChange validatorTagsSpec)) validatorTagsCard

/-- THE TIED CARD OF 'quaysidelaw10.ValidatorEvaluates'. -/
def validatorEvaluatesCard : Claim7 := { stood := { row := validatorEvaluatesRow, standIns := [], harness := (true, "c60b048320ee3051112bb1e679ca3e117a3ccf87cd2c72700f9578b8f2a5fab8"), looks := true }, kinds := [], alts := [], laidByText := true, laidKinds := [.data, .data, .data, .data, .pinned], laidTests := true, laidLooks := .later }
def ValidatorEvaluatesCardSaid : Prop := Claim7.holds Tryd.pinned (.plain (OpenSpec.ofChange validatorEvaluatesSpec)) validatorEvaluatesCard

/-- THE TIED CARD OF 'quaysidelaw10.ValidatorPrecedence'. -/
def validatorPrecedenceCard : Claim7 := { stood := { row := validatorPrecedenceRow, standIns := [], harness := (true, "c60b048320ee3051112bb1e679ca3e117a3ccf87cd2c72700f9578b8f2a5fab8"), looks := true }, kinds := [], alts := [], laidByText := true, laidKinds := [.data, .data, .data, .data, .pinned], laidTests := true, laidLooks := .later }
def ValidatorPrecedenceCardSaid : Prop := Claim7.holds Tryd.pinned (.plain (OpenSpec.ofChange validatorPrecedenceSpec)) validatorPrecedenceCard

/-- THE TIED CARD OF 'quaysidelaw10.ValidatorRanges'. -/
def validatorRangesCard : Claim7 := { stood := { row := validatorRangesRow, standIns := [], harness := (true, "c60b048320ee3051112bb1e679ca3e117a3ccf87cd2c72700f9578b8f2a5fab8"), looks := true }, kinds := [], alts := [], laidByText := true, laidKinds := [.data, .data, .data, .data, .pinned], laidTests := true, laidLooks := .later }
def ValidatorRangesCardSaid : Prop := Claim7.holds Tryd.pinned (.plain (OpenSpec.ofChange validatorRangesSpec)) validatorRangesCard

/-- THE TIED CARD OF 'quaysidelaw10.ValidatorSafe'. -/
def validatorSafeCard : Claim7 := { stood := { row := validatorSafeRow, standIns := [], harness := (true, "c60b048320ee3051112bb1e679ca3e117a3ccf87cd2c72700f9578b8f2a5fab8"), looks := true }, kinds := [], alts := [], laidByText := true, laidKinds := [.data, .data, .data, .data, .pinned], laidTests := true, laidLooks := .later }
def ValidatorSafeCardSaid : Prop := Claim7.holds Tryd.pinned (.plain (OpenSpec.ofChange validatorSafeSpec)) validatorSafeCard

/-- THE SECOND FORM's CARD OF 'quaysidelaw10.ValidatorReads'. -/
def validatorReadsUptoCard : Claim7 := { stood := { row := validatorReadsUptoRow, standIns := [], harness := (true, "c60b048320ee3051112bb1e679ca3e117a3ccf87cd2c72700f9578b8f2a5fab8"), looks := true }, kinds := [], alts := [], laidByText := true, laidKinds := [.data, .data, .data, .data, .pinned], laidTests := true, laidLooks := .later }
def ValidatorReadsUptoCardSaid : Prop := Claim7.holds Tryd.pinned (.plain (OpenSpec.upto validatorReadsSpec)) validatorReadsUptoCard

/-- THE SECOND FORM's CARD OF 'quaysidelaw10.ValidatorLists'. -/
def validatorListsUptoCard : Claim7 := { stood := { row := validatorListsUptoRow, standIns := [], harness := (true, "c60b048320ee3051112bb1e679ca3e117a3ccf87cd2c72700f9578b8f2a5fab8"), looks := true }, kinds := [], alts := [], laidByText := true, laidKinds := [.data, .data, .data, .data, .pinned], laidTests := true, laidLooks := .later }
def ValidatorListsUptoCardSaid : Prop := Claim7.holds Tryd.pinned (.plain (OpenSpec.upto validatorListsSpec)) validatorListsUptoCard

/-- THE SECOND FORM's CARD OF 'quaysidelaw10.ValidatorCompares'. -/
def validatorComparesUptoCard : Claim7 := { stood := { row := validatorComparesUptoRow, standIns := [], harness := (true, "c60b048320ee3051112bb1e679ca3e117a3ccf87cd2c72700f9578b8f2a5fab8"), looks := true }, kinds := [], alts := [], laidByText := true, laidKinds := [.data, .data, .data, .data, .pinned], laidTests := true, laidLooks := .later }
def ValidatorComparesUptoCardSaid : Prop := Claim7.holds Tryd.pinned (.plain (OpenSpec.upto validatorComparesSpec)) validatorComparesUptoCard

/-- THE SECOND FORM's CARD OF 'quaysidelaw10.ValidatorTags'. -/
def validatorTagsUptoCard : Claim7 := { stood := { row := validatorTagsUptoRow, standIns := [], harness := (true, "c60b048320ee3051112bb1e679ca3e117a3ccf87cd2c72700f9578b8f2a5fab8"), looks := true }, kinds := [], alts := [], laidByText := true, laidKinds := [.data, .data, .data, .data, .pinned], laidTests := true, laidLooks := .later }
def ValidatorTagsUptoCardSaid : Prop := Claim7.holds Tryd.pinned (.plain (OpenSpec.upto validatorTagsSpec)) validatorTagsUptoCard

/-- THE SECOND FORM's CARD OF 'quaysidelaw10.ValidatorEvaluates'. -/
def validatorEvaluatesUptoCard : Claim7 := { stood := { row := validatorEvaluatesUptoRow, standIns := [], harness := (true, "c60b048320ee3051112bb1e679ca3e117a3ccf87cd2c72700f9578b8f2a5fab8"), looks := true }, kinds := [], alts := [], laidByText := true, laidKinds := [.data, .data, .data, .data, .pinned], laidTests := true, laidLooks := .later }
def ValidatorEvaluatesUptoCardSaid : Prop := Claim7.holds Tryd.pinned (.plain (OpenSpec.upto validatorEvaluatesSpec)) validatorEvaluatesUptoCard

/-- THE SECOND FORM's CARD OF 'quaysidelaw10.ValidatorPrecedence'. -/
def validatorPrecedenceUptoCard : Claim7 := { stood := { row := validatorPrecedenceUptoRow, standIns := [], harness := (true, "c60b048320ee3051112bb1e679ca3e117a3ccf87cd2c72700f9578b8f2a5fab8"), looks := true }, kinds := [], alts := [], laidByText := true, laidKinds := [.data, .data, .data, .data, .pinned], laidTests := true, laidLooks := .later }
def ValidatorPrecedenceUptoCardSaid : Prop := Claim7.holds Tryd.pinned (.plain (OpenSpec.upto validatorPrecedenceSpec)) validatorPrecedenceUptoCard

/-- THE SECOND FORM's CARD OF 'quaysidelaw10.ValidatorRanges'. -/
def validatorRangesUptoCard : Claim7 := { stood := { row := validatorRangesUptoRow, standIns := [], harness := (true, "c60b048320ee3051112bb1e679ca3e117a3ccf87cd2c72700f9578b8f2a5fab8"), looks := true }, kinds := [], alts := [], laidByText := true, laidKinds := [.data, .data, .data, .data, .pinned], laidTests := true, laidLooks := .later }
def ValidatorRangesUptoCardSaid : Prop := Claim7.holds Tryd.pinned (.plain (OpenSpec.upto validatorRangesSpec)) validatorRangesUptoCard

/-- THE SECOND FORM's CARD OF 'quaysidelaw10.ValidatorSafe'. -/
def validatorSafeUptoCard : Claim7 := { stood := { row := validatorSafeUptoRow, standIns := [], harness := (true, "c60b048320ee3051112bb1e679ca3e117a3ccf87cd2c72700f9578b8f2a5fab8"), looks := true }, kinds := [], alts := [], laidByText := true, laidKinds := [.data, .data, .data, .data, .pinned], laidTests := true, laidLooks := .later }
def ValidatorSafeUptoCardSaid : Prop := Claim7.holds Tryd.pinned (.plain (OpenSpec.upto validatorSafeSpec)) validatorSafeUptoCard
end Rows
end Go.Proofs.YtghaopeijncgaaaDoor
