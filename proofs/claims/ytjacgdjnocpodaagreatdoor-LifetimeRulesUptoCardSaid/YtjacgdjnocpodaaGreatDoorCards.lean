/-
  DERIVED. GIVEN WITH THE SEED: THE CARDS: each row of YtjacgdjnocpodaaGreatDoorRows.lean that lists a variable, with what it lists TIED to the program's text (the seventh form; the later family's looks); each row that meets fmt, with fmt's text TOLD by the authors' own Lean function (tested against real Go, not proved from fmt's source: count such statements apart). THE CARD IS WHAT COUNTS. Prove the row's statement (the work); the ties are given (YtjacgdjnocpodaaGreatDoorTie.lean); close each card by the builder's one call (the guide's Derived/Test/ToyasCard.lean, 'card_holds'). Laid BY PROGRAM, IN A SANDBOX (cutbox-door.mjs). By AI agents, Wed Nov 11 2026. No macro, syntax, notation, axiom, sorry.
-/
import Derived.Test.YtjacgdjnocpodaaGreatDoorRows
import GoSem.ClaimSeven
namespace Go.Proofs.YtjacgdjnocpodaaGreatDoor
namespace Rows

/-- THE TIED CARD OF 'quaysidelaw14.LifetimeRules'. -/
def lifetimeRulesCard : Claim7 := { stood := { row := lifetimeRulesRow, standIns := [], harness := (true, "c802da14a61bb08189305b6398c7d209d5fde3623bfbbbbd5a7efe31690a9d22"), looks := false }, kinds := [], alts := [], laidByText := true, laidKinds := [.data, .data, .data, .data, .pinned], laidTests := true, laidLooks := .later }
def LifetimeRulesCardSaid : Prop := Claim7.holds Tryz.pinned (.plain (OpenSpec.ofChange lifetimeRulesSpec)) lifetimeRulesCard

/-- THE SECOND FORM's CARD OF 'quaysidelaw14.LifetimeRules'. -/
def lifetimeRulesUptoCard : Claim7 := { stood := { row := lifetimeRulesUptoRow, standIns := [], harness := (true, "c802da14a61bb08189305b6398c7d209d5fde3623bfbbbbd5a7efe31690a9d22"), looks := false }, kinds := [], alts := [], laidByText := true, laidKinds := [.data, .data, .data, .data, .pinned], laidTests := true, laidLooks := .later }
def LifetimeRulesUptoCardSaid : Prop := Claim7.holds Tryz.pinned (.plain (OpenSpec.upto lifetimeRulesSpec)) lifetimeRulesUptoCard
end Rows
end Go.Proofs.YtjacgdjnocpodaaGreatDoor
