/-
  DERIVED. GIVEN WITH THE SEED: THE CARDS: each row of YtocniclkooiggaaGreatDoorRows.lean that lists a variable, with what it lists TIED to the program's text (the seventh form; the later family's looks); each row that meets fmt, with fmt's text TOLD by the authors' own Lean function (tested against real Go, not proved from fmt's source: count such statements apart). THE CARD IS WHAT COUNTS. Prove the row's statement (the work); the ties are given (YtocniclkooiggaaGreatDoorTie.lean); close each card by the builder's one call (the guide's Derived/Test/ToyasCard.lean, 'card_holds'). Laid BY PROGRAM, IN A SANDBOX (cutbox-door.mjs). By AI agents, Wed Nov 11 2026. No macro, syntax, notation, axiom, sorry.
-/
import Derived.Test.YtocniclkooiggaaGreatDoorRows
import GoSem.ClaimSeven
namespace Go.Proofs.YtocniclkooiggaaGreatDoor
namespace Rows

/-- THE TIED CARD OF 'quaysidelaw17.PolicyJudges'. -/
def policyJudgesCard : Claim7 := { stood := { row := policyJudgesRow, standIns := [], harness := (true, "0c0a49e2c1057e67f92b1316aa22d7747de6d51504b64c2095a01279b2cdaf0d"), looks := false }, kinds := [], alts := [], laidByText := true, laidKinds := [.data, .data, .data, .data, .pinned], laidTests := true, laidLooks := .later }
def PolicyJudgesCardSaid : Prop := Claim7.holds Tryz.pinned (.plain (OpenSpec.ofChange policyJudgesSpec)) policyJudgesCard

/-- THE TIED CARD OF 'quaysidelaw17.PolicyErrors'. -/
def policyErrorsCard : Claim7 := { stood := { row := policyErrorsRow, standIns := [], harness := (true, "0c0a49e2c1057e67f92b1316aa22d7747de6d51504b64c2095a01279b2cdaf0d"), looks := false }, kinds := [], alts := [], laidByText := true, laidKinds := [.data, .data, .data, .data, .pinned], laidTests := true, laidLooks := .later }
def PolicyErrorsCardSaid : Prop := Claim7.holds Tryz.pinned (.plain (OpenSpec.ofChange policyErrorsSpec)) policyErrorsCard

/-- THE SECOND FORM's CARD OF 'quaysidelaw17.PolicyJudges'. -/
def policyJudgesUptoCard : Claim7 := { stood := { row := policyJudgesUptoRow, standIns := [], harness := (true, "0c0a49e2c1057e67f92b1316aa22d7747de6d51504b64c2095a01279b2cdaf0d"), looks := false }, kinds := [], alts := [], laidByText := true, laidKinds := [.data, .data, .data, .data, .pinned], laidTests := true, laidLooks := .later }
def PolicyJudgesUptoCardSaid : Prop := Claim7.holds Tryz.pinned (.plain (OpenSpec.upto policyJudgesSpec)) policyJudgesUptoCard

/-- THE SECOND FORM's CARD OF 'quaysidelaw17.PolicyErrors'. -/
def policyErrorsUptoCard : Claim7 := { stood := { row := policyErrorsUptoRow, standIns := [], harness := (true, "0c0a49e2c1057e67f92b1316aa22d7747de6d51504b64c2095a01279b2cdaf0d"), looks := false }, kinds := [], alts := [], laidByText := true, laidKinds := [.data, .data, .data, .data, .pinned], laidTests := true, laidLooks := .later }
def PolicyErrorsUptoCardSaid : Prop := Claim7.holds Tryz.pinned (.plain (OpenSpec.upto policyErrorsSpec)) policyErrorsUptoCard
end Rows
end Go.Proofs.YtocniclkooiggaaGreatDoor
