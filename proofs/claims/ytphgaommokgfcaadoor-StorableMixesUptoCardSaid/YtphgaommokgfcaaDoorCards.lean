/-
  DERIVED. GIVEN WITH THE SEED: THE CARDS: each row of YtphgaommokgfcaaDoorRows.lean that lists a variable, with what it lists TIED to the program's text (the seventh form; the later family's looks); each row that meets fmt, with fmt's text TOLD by the authors' own Lean function (tested against real Go, not proved from fmt's source: count such statements apart). THE CARD IS WHAT COUNTS. Prove the row's statement (the work); the ties are given (YtphgaommokgfcaaDoorTie.lean); close each card by the builder's one call (the guide's Derived/Test/ToyasCard.lean, 'card_holds'). Laid BY PROGRAM, IN A SANDBOX (cutbox-door.mjs). By AI agents, Wed Nov 11 2026. No macro, syntax, notation, axiom, sorry.
-/
import Derived.Test.YtphgaommokgfcaaDoorRows
import GoSem.ClaimSeven
namespace Go.Proofs.YtphgaommokgfcaaDoor
namespace Rows

/-- THE TIED CARD OF 'quaysidelaw15.StorableForbids'. -/
def storableForbidsCard : Claim7 := { stood := { row := storableForbidsRow, standIns := [], harness := (true, "dfa17c8009355ad863d376710408f51ae779033b2d1029f7198b1a1b76c82ed2"), looks := true }, kinds := [], alts := [], laidByText := true, laidKinds := [.data, .data, .data, .data, .pinned], laidTests := true, laidLooks := .later }
def StorableForbidsCardSaid : Prop := Claim7.holds Tryd.pinned (.plain (OpenSpec.ofChange storableForbidsSpec)) storableForbidsCard

/-- THE TIED CARD OF 'quaysidelaw15.StorableAuthorizes'. -/
def storableAuthorizesCard : Claim7 := { stood := { row := storableAuthorizesRow, standIns := [], harness := (true, "dfa17c8009355ad863d376710408f51ae779033b2d1029f7198b1a1b76c82ed2"), looks := true }, kinds := [], alts := [], laidByText := true, laidKinds := [.data, .data, .data, .data, .pinned], laidTests := true, laidLooks := .later }
def StorableAuthorizesCardSaid : Prop := Claim7.holds Tryd.pinned (.plain (OpenSpec.ofChange storableAuthorizesSpec)) storableAuthorizesCard

/-- THE TIED CARD OF 'quaysidelaw15.StorableMethods'. -/
def storableMethodsCard : Claim7 := { stood := { row := storableMethodsRow, standIns := [], harness := (true, "dfa17c8009355ad863d376710408f51ae779033b2d1029f7198b1a1b76c82ed2"), looks := true }, kinds := [], alts := [], laidByText := true, laidKinds := [.data, .data, .data, .data, .pinned], laidTests := true, laidLooks := .later }
def StorableMethodsCardSaid : Prop := Claim7.holds Tryd.pinned (.plain (OpenSpec.ofChange storableMethodsSpec)) storableMethodsCard

/-- THE TIED CARD OF 'quaysidelaw15.StorablePasses'. -/
def storablePassesCard : Claim7 := { stood := { row := storablePassesRow, standIns := [], harness := (true, "dfa17c8009355ad863d376710408f51ae779033b2d1029f7198b1a1b76c82ed2"), looks := true }, kinds := [], alts := [], laidByText := true, laidKinds := [.data, .data, .data, .data, .pinned], laidTests := true, laidLooks := .later }
def StorablePassesCardSaid : Prop := Claim7.holds Tryd.pinned (.plain (OpenSpec.ofChange storablePassesSpec)) storablePassesCard

/-- THE TIED CARD OF 'quaysidelaw15.StorableKeeps'. -/
def storableKeepsCard : Claim7 := { stood := { row := storableKeepsRow, standIns := [], harness := (true, "dfa17c8009355ad863d376710408f51ae779033b2d1029f7198b1a1b76c82ed2"), looks := true }, kinds := [], alts := [], laidByText := true, laidKinds := [.data, .data, .data, .data, .pinned], laidTests := true, laidLooks := .later }
def StorableKeepsCardSaid : Prop := Claim7.holds Tryd.pinned (.plain (OpenSpec.ofChange storableKeepsSpec)) storableKeepsCard

/-- THE TIED CARD OF 'quaysidelaw15.StorableMixes'. -/
def storableMixesCard : Claim7 := { stood := { row := storableMixesRow, standIns := [], harness := (true, "dfa17c8009355ad863d376710408f51ae779033b2d1029f7198b1a1b76c82ed2"), looks := true }, kinds := [], alts := [], laidByText := true, laidKinds := [.data, .data, .data, .data, .pinned], laidTests := true, laidLooks := .later }
def StorableMixesCardSaid : Prop := Claim7.holds Tryd.pinned (.plain (OpenSpec.ofChange storableMixesSpec)) storableMixesCard

/-- THE SECOND FORM's CARD OF 'quaysidelaw15.StorableForbids'. -/
def storableForbidsUptoCard : Claim7 := { stood := { row := storableForbidsUptoRow, standIns := [], harness := (true, "dfa17c8009355ad863d376710408f51ae779033b2d1029f7198b1a1b76c82ed2"), looks := true }, kinds := [], alts := [], laidByText := true, laidKinds := [.data, .data, .data, .data, .pinned], laidTests := true, laidLooks := .later }
def StorableForbidsUptoCardSaid : Prop := Claim7.holds Tryd.pinned (.plain (OpenSpec.upto storableForbidsSpec)) storableForbidsUptoCard

/-- THE SECOND FORM's CARD OF 'quaysidelaw15.StorableAuthorizes'. -/
def storableAuthorizesUptoCard : Claim7 := { stood := { row := storableAuthorizesUptoRow, standIns := [], harness := (true, "dfa17c8009355ad863d376710408f51ae779033b2d1029f7198b1a1b76c82ed2"), looks := true }, kinds := [], alts := [], laidByText := true, laidKinds := [.data, .data, .data, .data, .pinned], laidTests := true, laidLooks := .later }
def StorableAuthorizesUptoCardSaid : Prop := Claim7.holds Tryd.pinned (.plain (OpenSpec.upto storableAuthorizesSpec)) storableAuthorizesUptoCard

/-- THE SECOND FORM's CARD OF 'quaysidelaw15.StorableMethods'. -/
def storableMethodsUptoCard : Claim7 := { stood := { row := storableMethodsUptoRow, standIns := [], harness := (true, "dfa17c8009355ad863d376710408f51ae779033b2d1029f7198b1a1b76c82ed2"), looks := true }, kinds := [], alts := [], laidByText := true, laidKinds := [.data, .data, .data, .data, .pinned], laidTests := true, laidLooks := .later }
def StorableMethodsUptoCardSaid : Prop := Claim7.holds Tryd.pinned (.plain (OpenSpec.upto storableMethodsSpec)) storableMethodsUptoCard

/-- THE SECOND FORM's CARD OF 'quaysidelaw15.StorablePasses'. -/
def storablePassesUptoCard : Claim7 := { stood := { row := storablePassesUptoRow, standIns := [], harness := (true, "dfa17c8009355ad863d376710408f51ae779033b2d1029f7198b1a1b76c82ed2"), looks := true }, kinds := [], alts := [], laidByText := true, laidKinds := [.data, .data, .data, .data, .pinned], laidTests := true, laidLooks := .later }
def StorablePassesUptoCardSaid : Prop := Claim7.holds Tryd.pinned (.plain (OpenSpec.upto storablePassesSpec)) storablePassesUptoCard

/-- THE SECOND FORM's CARD OF 'quaysidelaw15.StorableKeeps'. -/
def storableKeepsUptoCard : Claim7 := { stood := { row := storableKeepsUptoRow, standIns := [], harness := (true, "dfa17c8009355ad863d376710408f51ae779033b2d1029f7198b1a1b76c82ed2"), looks := true }, kinds := [], alts := [], laidByText := true, laidKinds := [.data, .data, .data, .data, .pinned], laidTests := true, laidLooks := .later }
def StorableKeepsUptoCardSaid : Prop := Claim7.holds Tryd.pinned (.plain (OpenSpec.upto storableKeepsSpec)) storableKeepsUptoCard

/-- THE SECOND FORM's CARD OF 'quaysidelaw15.StorableMixes'. -/
def storableMixesUptoCard : Claim7 := { stood := { row := storableMixesUptoRow, standIns := [], harness := (true, "dfa17c8009355ad863d376710408f51ae779033b2d1029f7198b1a1b76c82ed2"), looks := true }, kinds := [], alts := [], laidByText := true, laidKinds := [.data, .data, .data, .data, .pinned], laidTests := true, laidLooks := .later }
def StorableMixesUptoCardSaid : Prop := Claim7.holds Tryd.pinned (.plain (OpenSpec.upto storableMixesSpec)) storableMixesUptoCard
end Rows
end Go.Proofs.YtphgaommokgfcaaDoor
