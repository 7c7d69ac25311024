/-
  DERIVED. GIVEN WITH THE SEED: THE CARDS: each row of YtmckbcbdnckngaaGreatDoorRows.lean that lists a variable, with what it lists TIED to the program's text (the seventh form; the later family's looks); each row that meets fmt, with fmt's text TOLD by the authors' own Lean function (tested against real Go, not proved from fmt's source: count such statements apart). THE CARD IS WHAT COUNTS. Prove the row's statement (the work); the ties are given (YtmckbcbdnckngaaGreatDoorTie.lean); close each card by the builder's one call (the guide's Derived/Test/ToyasCard.lean, 'card_holds'). Laid BY PROGRAM, IN A SANDBOX (cutbox-door.mjs). By AI agents, Wed Nov 11 2026. No macro, syntax, notation, axiom, sorry.
-/
import Derived.Test.YtmckbcbdnckngaaGreatDoorRows
import GoSem.ClaimSeven
namespace Go.Proofs.YtmckbcbdnckngaaGreatDoor
namespace Rows

/-- THE TIED CARD OF 'quaysidelaw55.OriginWhole'. -/
def originWholeCard : Claim7 := { stood := { row := originWholeRow, standIns := [], harness := (true, "490fdfca4bc12e97a89b1c11c35489850d5d7864c4807a7c230c6c4bd16c1715"), looks := true }, kinds := [], alts := [], laidByText := true, laidKinds := [.data, .data, .data, .data, .data, .data, .data, .pinned], laidTests := true, laidLooks := .later }
def OriginWholeCardSaid : Prop := Claim7.holds Tryz.pinned (.plain (OpenSpec.ofChange originWholeSpec)) originWholeCard

/-- THE TIED CARD OF 'quaysidelaw55.OriginRanges'. -/
def originRangesCard : Claim7 := { stood := { row := originRangesRow, standIns := [], harness := (true, "490fdfca4bc12e97a89b1c11c35489850d5d7864c4807a7c230c6c4bd16c1715"), looks := true }, kinds := [], alts := [], laidByText := true, laidKinds := [.data, .data, .data, .data, .data, .data, .data, .pinned], laidTests := true, laidLooks := .later }
def OriginRangesCardSaid : Prop := Claim7.holds Tryz.pinned (.plain (OpenSpec.ofChange originRangesSpec)) originRangesCard

/-- THE TIED CARD OF 'quaysidelaw55.OriginConditional'. -/
def originConditionalCard : Claim7 := { stood := { row := originConditionalRow, standIns := [], harness := (true, "490fdfca4bc12e97a89b1c11c35489850d5d7864c4807a7c230c6c4bd16c1715"), looks := true }, kinds := [], alts := [], laidByText := true, laidKinds := [.data, .data, .data, .data, .data, .data, .data, .pinned], laidTests := true, laidLooks := .later }
def OriginConditionalCardSaid : Prop := Claim7.holds Tryz.pinned (.plain (OpenSpec.ofChange originConditionalSpec)) originConditionalCard

/-- THE TIED CARD OF 'quaysidelaw55.OriginVariants'. -/
def originVariantsCard : Claim7 := { stood := { row := originVariantsRow, standIns := [], harness := (true, "490fdfca4bc12e97a89b1c11c35489850d5d7864c4807a7c230c6c4bd16c1715"), looks := true }, kinds := [], alts := [], laidByText := true, laidKinds := [.data, .data, .data, .data, .data, .data, .data, .pinned], laidTests := true, laidLooks := .later }
def OriginVariantsCardSaid : Prop := Claim7.holds Tryz.pinned (.plain (OpenSpec.ofChange originVariantsSpec)) originVariantsCard

/-- THE TIED CARD OF 'quaysidelaw55.OriginLimits'. -/
def originLimitsCard : Claim7 := { stood := { row := originLimitsRow, standIns := [], harness := (true, "490fdfca4bc12e97a89b1c11c35489850d5d7864c4807a7c230c6c4bd16c1715"), looks := true }, kinds := [], alts := [], laidByText := true, laidKinds := [.data, .data, .data, .data, .data, .data, .data, .pinned], laidTests := true, laidLooks := .later }
def OriginLimitsCardSaid : Prop := Claim7.holds Tryz.pinned (.plain (OpenSpec.ofChange originLimitsSpec)) originLimitsCard

/-- THE TIED CARD OF 'quaysidelaw55.OriginForms'. -/
def originFormsCard : Claim7 := { stood := { row := originFormsRow, standIns := [], harness := (true, "490fdfca4bc12e97a89b1c11c35489850d5d7864c4807a7c230c6c4bd16c1715"), looks := true }, kinds := [], alts := [], laidByText := true, laidKinds := [.data, .data, .data, .data, .data, .data, .data, .pinned], laidTests := true, laidLooks := .later }
def OriginFormsCardSaid : Prop := Claim7.holds Tryz.pinned (.plain (OpenSpec.ofChange originFormsSpec)) originFormsCard

/-- THE TIED CARD OF 'quaysidelaw55.OriginHeads'. -/
def originHeadsCard : Claim7 := { stood := { row := originHeadsRow, standIns := [], harness := (true, "490fdfca4bc12e97a89b1c11c35489850d5d7864c4807a7c230c6c4bd16c1715"), looks := true }, kinds := [], alts := [], laidByText := true, laidKinds := [.data, .data, .data, .data, .data, .data, .data, .pinned], laidTests := true, laidLooks := .later }
def OriginHeadsCardSaid : Prop := Claim7.holds Tryz.pinned (.plain (OpenSpec.ofChange originHeadsSpec)) originHeadsCard

/-- THE TIED CARD OF 'quaysidelaw55.OriginMemory'. -/
def originMemoryCard : Claim7 := { stood := { row := originMemoryRow, standIns := [], harness := (true, "490fdfca4bc12e97a89b1c11c35489850d5d7864c4807a7c230c6c4bd16c1715"), looks := true }, kinds := [], alts := [], laidByText := true, laidKinds := [.data, .data, .data, .data, .data, .data, .data, .pinned], laidTests := true, laidLooks := .later }
def OriginMemoryCardSaid : Prop := Claim7.holds Tryz.pinned (.plain (OpenSpec.ofChange originMemorySpec)) originMemoryCard

/-- THE TIED CARD OF 'quaysidelaw55.OriginTimes'. -/
def originTimesCard : Claim7 := { stood := { row := originTimesRow, standIns := [], harness := (true, "490fdfca4bc12e97a89b1c11c35489850d5d7864c4807a7c230c6c4bd16c1715"), looks := true }, kinds := [], alts := [], laidByText := true, laidKinds := [.data, .data, .data, .data, .data, .data, .data, .pinned], laidTests := true, laidLooks := .later }
def OriginTimesCardSaid : Prop := Claim7.holds Tryz.pinned (.plain (OpenSpec.ofChange originTimesSpec)) originTimesCard

/-- THE SECOND FORM's CARD OF 'quaysidelaw55.OriginWhole'. -/
def originWholeUptoCard : Claim7 := { stood := { row := originWholeUptoRow, standIns := [], harness := (true, "490fdfca4bc12e97a89b1c11c35489850d5d7864c4807a7c230c6c4bd16c1715"), looks := true }, kinds := [], alts := [], laidByText := true, laidKinds := [.data, .data, .data, .data, .data, .data, .data, .pinned], laidTests := true, laidLooks := .later }
def OriginWholeUptoCardSaid : Prop := Claim7.holds Tryz.pinned (.plain (OpenSpec.upto originWholeSpec)) originWholeUptoCard

/-- THE SECOND FORM's CARD OF 'quaysidelaw55.OriginRanges'. -/
def originRangesUptoCard : Claim7 := { stood := { row := originRangesUptoRow, standIns := [], harness := (true, "490fdfca4bc12e97a89b1c11c35489850d5d7864c4807a7c230c6c4bd16c1715"), looks := true }, kinds := [], alts := [], laidByText := true, laidKinds := [.data, .data, .data, .data, .data, .data, .data, .pinned], laidTests := true, laidLooks := .later }
def OriginRangesUptoCardSaid : Prop := Claim7.holds Tryz.pinned (.plain (OpenSpec.upto originRangesSpec)) originRangesUptoCard

/-- THE SECOND FORM's CARD OF 'quaysidelaw55.OriginConditional'. -/
def originConditionalUptoCard : Claim7 := { stood := { row := originConditionalUptoRow, standIns := [], harness := (true, "490fdfca4bc12e97a89b1c11c35489850d5d7864c4807a7c230c6c4bd16c1715"), looks := true }, kinds := [], alts := [], laidByText := true, laidKinds := [.data, .data, .data, .data, .data, .data, .data, .pinned], laidTests := true, laidLooks := .later }
def OriginConditionalUptoCardSaid : Prop := Claim7.holds Tryz.pinned (.plain (OpenSpec.upto originConditionalSpec)) originConditionalUptoCard

/-- THE SECOND FORM's CARD OF 'quaysidelaw55.OriginVariants'. -/
def originVariantsUptoCard : Claim7 := { stood := { row := originVariantsUptoRow, standIns := [], harness := (true, "490fdfca4bc12e97a89b1c11c35489850d5d7864c4807a7c230c6c4bd16c1715"), looks := true }, kinds := [], alts := [], laidByText := true, laidKinds := [.data, .data, .data, .data, .data, .data, .data, .pinned], laidTests := true, laidLooks := .later }
def OriginVariantsUptoCardSaid : Prop := Claim7.holds Tryz.pinned (.plain (OpenSpec.upto originVariantsSpec)) originVariantsUptoCard

/-- THE SECOND FORM's CARD OF 'quaysidelaw55.OriginLimits'. -/
def originLimitsUptoCard : Claim7 := { stood := { row := originLimitsUptoRow, standIns := [], harness := (true, "490fdfca4bc12e97a89b1c11c35489850d5d7864c4807a7c230c6c4bd16c1715"), looks := true }, kinds := [], alts := [], laidByText := true, laidKinds := [.data, .data, .data, .data, .data, .data, .data, .pinned], laidTests := true, laidLooks := .later }
def OriginLimitsUptoCardSaid : Prop := Claim7.holds Tryz.pinned (.plain (OpenSpec.upto originLimitsSpec)) originLimitsUptoCard

/-- THE SECOND FORM's CARD OF 'quaysidelaw55.OriginForms'. -/
def originFormsUptoCard : Claim7 := { stood := { row := originFormsUptoRow, standIns := [], harness := (true, "490fdfca4bc12e97a89b1c11c35489850d5d7864c4807a7c230c6c4bd16c1715"), looks := true }, kinds := [], alts := [], laidByText := true, laidKinds := [.data, .data, .data, .data, .data, .data, .data, .pinned], laidTests := true, laidLooks := .later }
def OriginFormsUptoCardSaid : Prop := Claim7.holds Tryz.pinned (.plain (OpenSpec.upto originFormsSpec)) originFormsUptoCard

/-- THE SECOND FORM's CARD OF 'quaysidelaw55.OriginHeads'. -/
def originHeadsUptoCard : Claim7 := { stood := { row := originHeadsUptoRow, standIns := [], harness := (true, "490fdfca4bc12e97a89b1c11c35489850d5d7864c4807a7c230c6c4bd16c1715"), looks := true }, kinds := [], alts := [], laidByText := true, laidKinds := [.data, .data, .data, .data, .data, .data, .data, .pinned], laidTests := true, laidLooks := .later }
def OriginHeadsUptoCardSaid : Prop := Claim7.holds Tryz.pinned (.plain (OpenSpec.upto originHeadsSpec)) originHeadsUptoCard

/-- THE SECOND FORM's CARD OF 'quaysidelaw55.OriginMemory'. -/
def originMemoryUptoCard : Claim7 := { stood := { row := originMemoryUptoRow, standIns := [], harness := (true, "490fdfca4bc12e97a89b1c11c35489850d5d7864c4807a7c230c6c4bd16c1715"), looks := true }, kinds := [], alts := [], laidByText := true, laidKinds := [.data, .data, .data, .data, .data, .data, .data, .pinned], laidTests := true, laidLooks := .later }
def OriginMemoryUptoCardSaid : Prop := Claim7.holds Tryz.pinned (.plain (OpenSpec.upto originMemorySpec)) originMemoryUptoCard

/-- THE SECOND FORM's CARD OF 'quaysidelaw55.OriginTimes'. -/
def originTimesUptoCard : Claim7 := { stood := { row := originTimesUptoRow, standIns := [], harness := (true, "490fdfca4bc12e97a89b1c11c35489850d5d7864c4807a7c230c6c4bd16c1715"), looks := true }, kinds := [], alts := [], laidByText := true, laidKinds := [.data, .data, .data, .data, .data, .data, .data, .pinned], laidTests := true, laidLooks := .later }
def OriginTimesUptoCardSaid : Prop := Claim7.holds Tryz.pinned (.plain (OpenSpec.upto originTimesSpec)) originTimesUptoCard
end Rows
end Go.Proofs.YtmckbcbdnckngaaGreatDoor
