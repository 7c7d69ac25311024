/-
  DERIVED. GIVEN WITH THE SEED: THE CARDS: each row of YtjacgdjnocpodaaDoorRows.lean that lists a variable, with what it lists TIED to the program's text (the seventh form; the later family's looks); each row that meets fmt, with fmt's text TOLD by the authors' own Lean function (tested against real Go, not proved from fmt's source: count such statements apart). THE CARD IS WHAT COUNTS. Prove the row's statement (the work); the ties are given (YtjacgdjnocpodaaDoorTie.lean); close each card by the builder's one call (the guide's Derived/Test/ToyasCard.lean, 'card_holds'). Laid BY PROGRAM, IN A SANDBOX (cutbox-door.mjs). By AI agents, Wed Nov 11 2026. No macro, syntax, notation, axiom, sorry.
-/
import Derived.Test.YtjacgdjnocpodaaDoorRows
import GoSem.ClaimSeven
namespace Go.Proofs.YtjacgdjnocpodaaDoor
namespace Rows

/-- THE TIED CARD OF 'quaysidelaw14.LifetimeAllowances'. -/
def lifetimeAllowancesCard : Claim7 := { stood := { row := lifetimeAllowancesRow, standIns := [], harness := (true, "5eccccf07acd1db6f4777d5179e1d97f5bd0f1bcb956440ad0cdd6b35f6f8282"), looks := false }, kinds := [], alts := [], laidByText := true, laidKinds := [.data, .data, .data, .data, .pinned], laidTests := true, laidLooks := .later }
def LifetimeAllowancesCardSaid : Prop := Claim7.holds Tryd.pinned (.plain (OpenSpec.ofChange lifetimeAllowancesSpec)) lifetimeAllowancesCard

/-- THE TIED CARD OF 'quaysidelaw14.LifetimeBounds'. -/
def lifetimeBoundsCard : Claim7 := { stood := { row := lifetimeBoundsRow, standIns := [], harness := (true, "5eccccf07acd1db6f4777d5179e1d97f5bd0f1bcb956440ad0cdd6b35f6f8282"), looks := false }, kinds := [], alts := [], laidByText := true, laidKinds := [.data, .data, .data, .data, .pinned], laidTests := true, laidLooks := .later }
def LifetimeBoundsCardSaid : Prop := Claim7.holds Tryd.pinned (.plain (OpenSpec.ofChange lifetimeBoundsSpec)) lifetimeBoundsCard

/-- THE TIED CARD OF 'quaysidelaw14.LifetimeDates'. -/
def lifetimeDatesCard : Claim7 := { stood := { row := lifetimeDatesRow, standIns := [], harness := (true, "5eccccf07acd1db6f4777d5179e1d97f5bd0f1bcb956440ad0cdd6b35f6f8282"), looks := false }, kinds := [], alts := [], laidByText := true, laidKinds := [.data, .data, .data, .data, .pinned], laidTests := true, laidLooks := .later }
def LifetimeDatesCardSaid : Prop := Claim7.holds Tryd.pinned (.plain (OpenSpec.ofChange lifetimeDatesSpec)) lifetimeDatesCard

/-- THE TIED CARD OF 'quaysidelaw14.LifetimeStrict'. -/
def lifetimeStrictCard : Claim7 := { stood := { row := lifetimeStrictRow, standIns := [], harness := (true, "5eccccf07acd1db6f4777d5179e1d97f5bd0f1bcb956440ad0cdd6b35f6f8282"), looks := false }, kinds := [], alts := [], laidByText := true, laidKinds := [.data, .data, .data, .data, .pinned], laidTests := true, laidLooks := .later }
def LifetimeStrictCardSaid : Prop := Claim7.holds Tryd.pinned (.plain (OpenSpec.ofChange lifetimeStrictSpec)) lifetimeStrictCard

/-- THE TIED CARD OF 'quaysidelaw14.LifetimeBroken'. -/
def lifetimeBrokenCard : Claim7 := { stood := { row := lifetimeBrokenRow, standIns := [], harness := (true, "5eccccf07acd1db6f4777d5179e1d97f5bd0f1bcb956440ad0cdd6b35f6f8282"), looks := false }, kinds := [], alts := [], laidByText := true, laidKinds := [.data, .data, .data, .data, .pinned], laidTests := true, laidLooks := .later }
def LifetimeBrokenCardSaid : Prop := Claim7.holds Tryd.pinned (.plain (OpenSpec.ofChange lifetimeBrokenSpec)) lifetimeBrokenCard

/-- THE TIED CARD OF 'quaysidelaw14.LifetimeFirst'. -/
def lifetimeFirstCard : Claim7 := { stood := { row := lifetimeFirstRow, standIns := [], harness := (true, "5eccccf07acd1db6f4777d5179e1d97f5bd0f1bcb956440ad0cdd6b35f6f8282"), looks := false }, kinds := [], alts := [], laidByText := true, laidKinds := [.data, .data, .data, .data, .data, .data, .data, .pinned], laidTests := true, laidLooks := .later }
def LifetimeFirstCardSaid : Prop := Claim7.holds Tryd.pinned (.plain (OpenSpec.ofChange lifetimeFirstSpec)) lifetimeFirstCard

/-- THE SECOND FORM's CARD OF 'quaysidelaw14.LifetimeAllowances'. -/
def lifetimeAllowancesUptoCard : Claim7 := { stood := { row := lifetimeAllowancesUptoRow, standIns := [], harness := (true, "5eccccf07acd1db6f4777d5179e1d97f5bd0f1bcb956440ad0cdd6b35f6f8282"), looks := false }, kinds := [], alts := [], laidByText := true, laidKinds := [.data, .data, .data, .data, .pinned], laidTests := true, laidLooks := .later }
def LifetimeAllowancesUptoCardSaid : Prop := Claim7.holds Tryd.pinned (.plain (OpenSpec.upto lifetimeAllowancesSpec)) lifetimeAllowancesUptoCard

/-- THE SECOND FORM's CARD OF 'quaysidelaw14.LifetimeBounds'. -/
def lifetimeBoundsUptoCard : Claim7 := { stood := { row := lifetimeBoundsUptoRow, standIns := [], harness := (true, "5eccccf07acd1db6f4777d5179e1d97f5bd0f1bcb956440ad0cdd6b35f6f8282"), looks := false }, kinds := [], alts := [], laidByText := true, laidKinds := [.data, .data, .data, .data, .pinned], laidTests := true, laidLooks := .later }
def LifetimeBoundsUptoCardSaid : Prop := Claim7.holds Tryd.pinned (.plain (OpenSpec.upto lifetimeBoundsSpec)) lifetimeBoundsUptoCard

/-- THE SECOND FORM's CARD OF 'quaysidelaw14.LifetimeDates'. -/
def lifetimeDatesUptoCard : Claim7 := { stood := { row := lifetimeDatesUptoRow, standIns := [], harness := (true, "5eccccf07acd1db6f4777d5179e1d97f5bd0f1bcb956440ad0cdd6b35f6f8282"), looks := false }, kinds := [], alts := [], laidByText := true, laidKinds := [.data, .data, .data, .data, .pinned], laidTests := true, laidLooks := .later }
def LifetimeDatesUptoCardSaid : Prop := Claim7.holds Tryd.pinned (.plain (OpenSpec.upto lifetimeDatesSpec)) lifetimeDatesUptoCard

/-- THE SECOND FORM's CARD OF 'quaysidelaw14.LifetimeStrict'. -/
def lifetimeStrictUptoCard : Claim7 := { stood := { row := lifetimeStrictUptoRow, standIns := [], harness := (true, "5eccccf07acd1db6f4777d5179e1d97f5bd0f1bcb956440ad0cdd6b35f6f8282"), looks := false }, kinds := [], alts := [], laidByText := true, laidKinds := [.data, .data, .data, .data, .pinned], laidTests := true, laidLooks := .later }
def LifetimeStrictUptoCardSaid : Prop := Claim7.holds Tryd.pinned (.plain (OpenSpec.upto lifetimeStrictSpec)) lifetimeStrictUptoCard

/-- THE SECOND FORM's CARD OF 'quaysidelaw14.LifetimeBroken'. -/
def lifetimeBrokenUptoCard : Claim7 := { stood := { row := lifetimeBrokenUptoRow, standIns := [], harness := (true, "5eccccf07acd1db6f4777d5179e1d97f5bd0f1bcb956440ad0cdd6b35f6f8282"), looks := false }, kinds := [], alts := [], laidByText := true, laidKinds := [.data, .data, .data, .data, .pinned], laidTests := true, laidLooks := .later }
def LifetimeBrokenUptoCardSaid : Prop := Claim7.holds Tryd.pinned (.plain (OpenSpec.upto lifetimeBrokenSpec)) lifetimeBrokenUptoCard

/-- THE SECOND FORM's CARD OF 'quaysidelaw14.LifetimeFirst'. -/
def lifetimeFirstUptoCard : Claim7 := { stood := { row := lifetimeFirstUptoRow, standIns := [], harness := (true, "5eccccf07acd1db6f4777d5179e1d97f5bd0f1bcb956440ad0cdd6b35f6f8282"), looks := false }, kinds := [], alts := [], laidByText := true, laidKinds := [.data, .data, .data, .data, .data, .data, .data, .pinned], laidTests := true, laidLooks := .later }
def LifetimeFirstUptoCardSaid : Prop := Claim7.holds Tryd.pinned (.plain (OpenSpec.upto lifetimeFirstSpec)) lifetimeFirstUptoCard
end Rows
end Go.Proofs.YtjacgdjnocpodaaDoor
