/-
  DERIVED. GIVEN WITH THE SEED: THE CARDS: each row of YtphgaommokgfcaaGreatDoorRows.lean that lists a variable, with what it lists TIED to the program's text (the seventh form; the later family's looks); each row that meets fmt, with fmt's text TOLD by the authors' own Lean function (tested against real Go, not proved from fmt's source: count such statements apart). THE CARD IS WHAT COUNTS. Prove the row's statement (the work); the ties are given (YtphgaommokgfcaaGreatDoorTie.lean); close each card by the builder's one call (the guide's Derived/Test/ToyasCard.lean, 'card_holds'). Laid BY PROGRAM, IN A SANDBOX (cutbox-door.mjs). By AI agents, Wed Nov 11 2026. No macro, syntax, notation, axiom, sorry.
-/
import Derived.Test.YtphgaommokgfcaaGreatDoorRows
import GoSem.ClaimSeven
namespace Go.Proofs.YtphgaommokgfcaaGreatDoor
namespace Rows

/-- THE TIED CARD OF 'quaysidelaw15.StorableReasons'. -/
def storableReasonsCard : Claim7 := { stood := { row := storableReasonsRow, standIns := [], harness := (true, "9775e2b3f20388960d3efa8e176996d3638581a84af7df9cdf34b361ce61e357"), looks := true }, kinds := [], alts := [], laidByText := true, laidKinds := [.data, .data, .data, .data, .pinned], laidTests := true, laidLooks := .later }
def StorableReasonsCardSaid : Prop := Claim7.holds Tryz.pinned (.plain (OpenSpec.ofChange storableReasonsSpec)) storableReasonsCard

/-- THE TIED CARD OF 'quaysidelaw15.StorableUpdates'. -/
def storableUpdatesCard : Claim7 := { stood := { row := storableUpdatesRow, standIns := [], harness := (true, "9775e2b3f20388960d3efa8e176996d3638581a84af7df9cdf34b361ce61e357"), looks := true }, kinds := [], alts := [], laidByText := true, laidKinds := [.data, .data, .data, .data, .pinned], laidTests := true, laidLooks := .later }
def StorableUpdatesCardSaid : Prop := Claim7.holds Tryz.pinned (.plain (OpenSpec.ofChange storableUpdatesSpec)) storableUpdatesCard

/-- THE SECOND FORM's CARD OF 'quaysidelaw15.StorableReasons'. -/
def storableReasonsUptoCard : Claim7 := { stood := { row := storableReasonsUptoRow, standIns := [], harness := (true, "9775e2b3f20388960d3efa8e176996d3638581a84af7df9cdf34b361ce61e357"), looks := true }, kinds := [], alts := [], laidByText := true, laidKinds := [.data, .data, .data, .data, .pinned], laidTests := true, laidLooks := .later }
def StorableReasonsUptoCardSaid : Prop := Claim7.holds Tryz.pinned (.plain (OpenSpec.upto storableReasonsSpec)) storableReasonsUptoCard

/-- THE SECOND FORM's CARD OF 'quaysidelaw15.StorableUpdates'. -/
def storableUpdatesUptoCard : Claim7 := { stood := { row := storableUpdatesUptoRow, standIns := [], harness := (true, "9775e2b3f20388960d3efa8e176996d3638581a84af7df9cdf34b361ce61e357"), looks := true }, kinds := [], alts := [], laidByText := true, laidKinds := [.data, .data, .data, .data, .pinned], laidTests := true, laidLooks := .later }
def StorableUpdatesUptoCardSaid : Prop := Claim7.holds Tryz.pinned (.plain (OpenSpec.upto storableUpdatesSpec)) storableUpdatesUptoCard
end Rows
end Go.Proofs.YtphgaommokgfcaaGreatDoor
