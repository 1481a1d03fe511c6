/-
  DERIVED. GIVEN WITH THE SEED: THE CARDS: each row of YthednemlahioeaaGreatDoorRows.lean that lists a variable, with what it lists TIED to the program's text (the seventh form; the later family's looks); each row that meets fmt, with fmt's text TOLD by the authors' own Lean function (tested against real Go, not proved from fmt's source: count such statements apart). THE CARD IS WHAT COUNTS. Prove the row's statement (the work); the ties are given (YthednemlahioeaaGreatDoorTie.lean); close each card by the builder's one call (the guide's Derived/Test/ToyasCard.lean, 'card_holds'). Laid BY PROGRAM, IN A SANDBOX (cutbox-door.mjs). By AI agents, Wed Nov 11 2026. No macro, syntax, notation, axiom, sorry.
-/
import Derived.Test.YthednemlahioeaaGreatDoorRows
import GoSem.ClaimSeven
namespace Go.Proofs.YthednemlahioeaaGreatDoor
namespace Rows

/-- THE TIED CARD OF 'kinoralaw15.LadderChecks'. -/
def ladderChecksCard : Claim7 := { stood := { row := ladderChecksRow, standIns := [], harness := (true, "0901637a7163c00ab74897054a05ebfc26105b53c584f0ed4435d1a232147e76"), looks := true }, kinds := [], alts := [], laidByText := true, laidKinds := [.data], laidTests := true, laidLooks := .later }
def LadderChecksCardSaid : Prop := Claim7.holds Tryz.pinned (.plain (OpenSpec.ofChange ladderChecksSpec)) ladderChecksCard

/-- THE TIED CARD OF 'kinoralaw15.LadderMakes'. -/
def ladderMakesCard : Claim7 := { stood := { row := ladderMakesRow, standIns := [], harness := (true, "0901637a7163c00ab74897054a05ebfc26105b53c584f0ed4435d1a232147e76"), looks := true }, kinds := [], alts := [], laidByText := true, laidKinds := [.data], laidTests := true, laidLooks := .later }
def LadderMakesCardSaid : Prop := Claim7.holds Tryz.pinned (.plain (OpenSpec.ofChange ladderMakesSpec)) ladderMakesCard

/-- THE TIED CARD OF 'kinoralaw15.LadderHalves'. -/
def ladderHalvesCard : Claim7 := { stood := { row := ladderHalvesRow, standIns := [], harness := (true, "0901637a7163c00ab74897054a05ebfc26105b53c584f0ed4435d1a232147e76"), looks := true }, kinds := [], alts := [], laidByText := true, laidKinds := [.data], laidTests := true, laidLooks := .later }
def LadderHalvesCardSaid : Prop := Claim7.holds Tryz.pinned (.plain (OpenSpec.ofChange ladderHalvesSpec)) ladderHalvesCard

/-- THE TIED CARD OF 'kinoralaw19.OriginRanges'. -/
def originRangesCard : Claim7 := { stood := { row := originRangesRow, standIns := [], harness := (true, "0901637a7163c00ab74897054a05ebfc26105b53c584f0ed4435d1a232147e76"), looks := true }, kinds := [], alts := [], laidByText := true, laidKinds := [.data, .data, .data, .data], laidTests := true, laidLooks := .later }
def OriginRangesCardSaid : Prop := Claim7.holds Tryz.pinned (.plain (OpenSpec.ofChange originRangesSpec)) originRangesCard

/-- THE TIED CARD OF 'kinoralaw19.OriginPlays'. -/
def originPlaysCard : Claim7 := { stood := { row := originPlaysRow, standIns := [], harness := (true, "0901637a7163c00ab74897054a05ebfc26105b53c584f0ed4435d1a232147e76"), looks := true }, kinds := [], alts := [], laidByText := true, laidKinds := [.data, .data, .data, .data], laidTests := true, laidLooks := .later }
def OriginPlaysCardSaid : Prop := Claim7.holds Tryz.pinned (.plain (OpenSpec.ofChange originPlaysSpec)) originPlaysCard

/-- THE TIED CARD OF 'kinoralaw19.OriginPublishes'. -/
def originPublishesCard : Claim7 := { stood := { row := originPublishesRow, standIns := [], harness := (true, "0901637a7163c00ab74897054a05ebfc26105b53c584f0ed4435d1a232147e76"), looks := true }, kinds := [], alts := [], laidByText := true, laidKinds := [.data, .data, .data, .data], laidTests := true, laidLooks := .later }
def OriginPublishesCardSaid : Prop := Claim7.holds Tryz.pinned (.plain (OpenSpec.ofChange originPublishesSpec)) originPublishesCard

/-- THE TIED CARD OF 'kinoralaw19.OriginNil'. -/
def originNilCard : Claim7 := { stood := { row := originNilRow, standIns := [], harness := (true, "0901637a7163c00ab74897054a05ebfc26105b53c584f0ed4435d1a232147e76"), looks := true }, kinds := [], alts := [], laidByText := true, laidKinds := [.data, .data, .data, .data], laidTests := true, laidLooks := .later }
def OriginNilCardSaid : Prop := Claim7.holds Tryz.pinned (.plain (OpenSpec.ofChange originNilSpec)) originNilCard

/-- THE TIED CARD OF 'kinoralaw19.OriginPublished'. -/
def originPublishedCard : Claim7 := { stood := { row := originPublishedRow, standIns := [], harness := (true, "0901637a7163c00ab74897054a05ebfc26105b53c584f0ed4435d1a232147e76"), looks := true }, kinds := [], alts := [], laidByText := true, laidKinds := [.data, .data, .data, .data, .data, .sentinel, .sentinel, .pinned], laidTests := true, laidLooks := .later }
def OriginPublishedCardSaid : Prop := Claim7.holds Tryz.pinned (.plain (OpenSpec.ofChange originPublishedSpec)) originPublishedCard

/-- THE SECOND FORM's CARD OF 'kinoralaw15.LadderChecks'. -/
def ladderChecksUptoCard : Claim7 := { stood := { row := ladderChecksUptoRow, standIns := [], harness := (true, "0901637a7163c00ab74897054a05ebfc26105b53c584f0ed4435d1a232147e76"), looks := true }, kinds := [], alts := [], laidByText := true, laidKinds := [.data], laidTests := true, laidLooks := .later }
def LadderChecksUptoCardSaid : Prop := Claim7.holds Tryz.pinned (.plain (OpenSpec.upto ladderChecksSpec)) ladderChecksUptoCard

/-- THE SECOND FORM's CARD OF 'kinoralaw15.LadderMakes'. -/
def ladderMakesUptoCard : Claim7 := { stood := { row := ladderMakesUptoRow, standIns := [], harness := (true, "0901637a7163c00ab74897054a05ebfc26105b53c584f0ed4435d1a232147e76"), looks := true }, kinds := [], alts := [], laidByText := true, laidKinds := [.data], laidTests := true, laidLooks := .later }
def LadderMakesUptoCardSaid : Prop := Claim7.holds Tryz.pinned (.plain (OpenSpec.upto ladderMakesSpec)) ladderMakesUptoCard

/-- THE SECOND FORM's CARD OF 'kinoralaw15.LadderHalves'. -/
def ladderHalvesUptoCard : Claim7 := { stood := { row := ladderHalvesUptoRow, standIns := [], harness := (true, "0901637a7163c00ab74897054a05ebfc26105b53c584f0ed4435d1a232147e76"), looks := true }, kinds := [], alts := [], laidByText := true, laidKinds := [.data], laidTests := true, laidLooks := .later }
def LadderHalvesUptoCardSaid : Prop := Claim7.holds Tryz.pinned (.plain (OpenSpec.upto ladderHalvesSpec)) ladderHalvesUptoCard

/-- THE SECOND FORM's CARD OF 'kinoralaw19.OriginRanges'. -/
def originRangesUptoCard : Claim7 := { stood := { row := originRangesUptoRow, standIns := [], harness := (true, "0901637a7163c00ab74897054a05ebfc26105b53c584f0ed4435d1a232147e76"), looks := true }, kinds := [], alts := [], laidByText := true, laidKinds := [.data, .data, .data, .data], laidTests := true, laidLooks := .later }
def OriginRangesUptoCardSaid : Prop := Claim7.holds Tryz.pinned (.plain (OpenSpec.upto originRangesSpec)) originRangesUptoCard

/-- THE SECOND FORM's CARD OF 'kinoralaw19.OriginPlays'. -/
def originPlaysUptoCard : Claim7 := { stood := { row := originPlaysUptoRow, standIns := [], harness := (true, "0901637a7163c00ab74897054a05ebfc26105b53c584f0ed4435d1a232147e76"), looks := true }, kinds := [], alts := [], laidByText := true, laidKinds := [.data, .data, .data, .data], laidTests := true, laidLooks := .later }
def OriginPlaysUptoCardSaid : Prop := Claim7.holds Tryz.pinned (.plain (OpenSpec.upto originPlaysSpec)) originPlaysUptoCard

/-- THE SECOND FORM's CARD OF 'kinoralaw19.OriginPublishes'. -/
def originPublishesUptoCard : Claim7 := { stood := { row := originPublishesUptoRow, standIns := [], harness := (true, "0901637a7163c00ab74897054a05ebfc26105b53c584f0ed4435d1a232147e76"), looks := true }, kinds := [], alts := [], laidByText := true, laidKinds := [.data, .data, .data, .data], laidTests := true, laidLooks := .later }
def OriginPublishesUptoCardSaid : Prop := Claim7.holds Tryz.pinned (.plain (OpenSpec.upto originPublishesSpec)) originPublishesUptoCard

/-- THE SECOND FORM's CARD OF 'kinoralaw19.OriginNil'. -/
def originNilUptoCard : Claim7 := { stood := { row := originNilUptoRow, standIns := [], harness := (true, "0901637a7163c00ab74897054a05ebfc26105b53c584f0ed4435d1a232147e76"), looks := true }, kinds := [], alts := [], laidByText := true, laidKinds := [.data, .data, .data, .data], laidTests := true, laidLooks := .later }
def OriginNilUptoCardSaid : Prop := Claim7.holds Tryz.pinned (.plain (OpenSpec.upto originNilSpec)) originNilUptoCard

/-- THE SECOND FORM's CARD OF 'kinoralaw19.OriginPublished'. -/
def originPublishedUptoCard : Claim7 := { stood := { row := originPublishedUptoRow, standIns := [], harness := (true, "0901637a7163c00ab74897054a05ebfc26105b53c584f0ed4435d1a232147e76"), looks := true }, kinds := [], alts := [], laidByText := true, laidKinds := [.data, .data, .data, .data, .data, .sentinel, .sentinel, .pinned], laidTests := true, laidLooks := .later }
def OriginPublishedUptoCardSaid : Prop := Claim7.holds Tryz.pinned (.plain (OpenSpec.upto originPublishedSpec)) originPublishedUptoCard
end Rows
end Go.Proofs.YthednemlahioeaaGreatDoor
