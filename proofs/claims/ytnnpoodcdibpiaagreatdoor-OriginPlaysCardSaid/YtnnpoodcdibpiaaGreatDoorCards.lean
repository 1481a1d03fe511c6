/-
  DERIVED. GIVEN WITH THE SEED: THE CARDS: each row of YtnnpoodcdibpiaaGreatDoorRows.lean that lists a variable, with what it lists TIED to the program's text (the seventh form; the later family's looks); each row that meets fmt, with fmt's text TOLD by the authors' own Lean function (tested against real Go, not proved from fmt's source: count such statements apart). THE CARD IS WHAT COUNTS. Prove the row's statement (the work); the ties are given (YtnnpoodcdibpiaaGreatDoorTie.lean); close each card by the builder's one call (the guide's Derived/Test/ToyasCard.lean, 'card_holds'). Laid BY PROGRAM, IN A SANDBOX (cutbox-door.mjs). By AI agents, Wed Nov 11 2026. No macro, syntax, notation, axiom, sorry.
-/
import Derived.Test.YtnnpoodcdibpiaaGreatDoorRows
import GoSem.ClaimSeven
namespace Go.Proofs.YtnnpoodcdibpiaaGreatDoor
namespace Rows

/-- THE TIED CARD OF 'kinoralaw19.OriginRanges'. -/
def originRangesCard : Claim7 := { stood := { row := originRangesRow, standIns := [], harness := (true, "1704448d77b9eeea178ae9a664f38474699b0bfd6d6c177a6de0df4c4809f08f"), looks := true }, kinds := [], alts := [], laidByText := true, laidKinds := [.data, .data, .data, .data], laidTests := true, laidLooks := .later }
def OriginRangesCardSaid : Prop := Claim7.holds Tryz.pinned (.plain (OpenSpec.ofChange originRangesSpec)) originRangesCard

/-- THE TIED CARD OF 'kinoralaw19.OriginPlays'. -/
def originPlaysCard : Claim7 := { stood := { row := originPlaysRow, standIns := [], harness := (true, "1704448d77b9eeea178ae9a664f38474699b0bfd6d6c177a6de0df4c4809f08f"), looks := true }, kinds := [], alts := [], laidByText := true, laidKinds := [.data, .data, .data, .data], laidTests := true, laidLooks := .later }
def OriginPlaysCardSaid : Prop := Claim7.holds Tryz.pinned (.plain (OpenSpec.ofChange originPlaysSpec)) originPlaysCard

/-- THE TIED CARD OF 'kinoralaw19.OriginPublishes'. -/
def originPublishesCard : Claim7 := { stood := { row := originPublishesRow, standIns := [], harness := (true, "1704448d77b9eeea178ae9a664f38474699b0bfd6d6c177a6de0df4c4809f08f"), looks := true }, kinds := [], alts := [], laidByText := true, laidKinds := [.data, .data, .data, .data], laidTests := true, laidLooks := .later }
def OriginPublishesCardSaid : Prop := Claim7.holds Tryz.pinned (.plain (OpenSpec.ofChange originPublishesSpec)) originPublishesCard

/-- THE TIED CARD OF 'kinoralaw19.OriginNil'. -/
def originNilCard : Claim7 := { stood := { row := originNilRow, standIns := [], harness := (true, "1704448d77b9eeea178ae9a664f38474699b0bfd6d6c177a6de0df4c4809f08f"), looks := true }, kinds := [], alts := [], laidByText := true, laidKinds := [.data, .data, .data, .data], laidTests := true, laidLooks := .later }
def OriginNilCardSaid : Prop := Claim7.holds Tryz.pinned (.plain (OpenSpec.ofChange originNilSpec)) originNilCard

/-- THE TIED CARD OF 'kinoralaw19.OriginPublished'. -/
def originPublishedCard : Claim7 := { stood := { row := originPublishedRow, standIns := [], harness := (true, "1704448d77b9eeea178ae9a664f38474699b0bfd6d6c177a6de0df4c4809f08f"), looks := true }, kinds := [], alts := [], laidByText := true, laidKinds := [.data, .data, .data, .data, .data, .sentinel, .sentinel, .pinned], laidTests := true, laidLooks := .later }
def OriginPublishedCardSaid : Prop := Claim7.holds Tryz.pinned (.plain (OpenSpec.ofChange originPublishedSpec)) originPublishedCard

/-- THE SECOND FORM's CARD OF 'kinoralaw19.OriginRanges'. -/
def originRangesUptoCard : Claim7 := { stood := { row := originRangesUptoRow, standIns := [], harness := (true, "1704448d77b9eeea178ae9a664f38474699b0bfd6d6c177a6de0df4c4809f08f"), looks := true }, kinds := [], alts := [], laidByText := true, laidKinds := [.data, .data, .data, .data], laidTests := true, laidLooks := .later }
def OriginRangesUptoCardSaid : Prop := Claim7.holds Tryz.pinned (.plain (OpenSpec.upto originRangesSpec)) originRangesUptoCard

/-- THE SECOND FORM's CARD OF 'kinoralaw19.OriginPlays'. -/
def originPlaysUptoCard : Claim7 := { stood := { row := originPlaysUptoRow, standIns := [], harness := (true, "1704448d77b9eeea178ae9a664f38474699b0bfd6d6c177a6de0df4c4809f08f"), looks := true }, kinds := [], alts := [], laidByText := true, laidKinds := [.data, .data, .data, .data], laidTests := true, laidLooks := .later }
def OriginPlaysUptoCardSaid : Prop := Claim7.holds Tryz.pinned (.plain (OpenSpec.upto originPlaysSpec)) originPlaysUptoCard

/-- THE SECOND FORM's CARD OF 'kinoralaw19.OriginPublishes'. -/
def originPublishesUptoCard : Claim7 := { stood := { row := originPublishesUptoRow, standIns := [], harness := (true, "1704448d77b9eeea178ae9a664f38474699b0bfd6d6c177a6de0df4c4809f08f"), looks := true }, kinds := [], alts := [], laidByText := true, laidKinds := [.data, .data, .data, .data], laidTests := true, laidLooks := .later }
def OriginPublishesUptoCardSaid : Prop := Claim7.holds Tryz.pinned (.plain (OpenSpec.upto originPublishesSpec)) originPublishesUptoCard

/-- THE SECOND FORM's CARD OF 'kinoralaw19.OriginNil'. -/
def originNilUptoCard : Claim7 := { stood := { row := originNilUptoRow, standIns := [], harness := (true, "1704448d77b9eeea178ae9a664f38474699b0bfd6d6c177a6de0df4c4809f08f"), looks := true }, kinds := [], alts := [], laidByText := true, laidKinds := [.data, .data, .data, .data], laidTests := true, laidLooks := .later }
def OriginNilUptoCardSaid : Prop := Claim7.holds Tryz.pinned (.plain (OpenSpec.upto originNilSpec)) originNilUptoCard

/-- THE SECOND FORM's CARD OF 'kinoralaw19.OriginPublished'. -/
def originPublishedUptoCard : Claim7 := { stood := { row := originPublishedUptoRow, standIns := [], harness := (true, "1704448d77b9eeea178ae9a664f38474699b0bfd6d6c177a6de0df4c4809f08f"), looks := true }, kinds := [], alts := [], laidByText := true, laidKinds := [.data, .data, .data, .data, .data, .sentinel, .sentinel, .pinned], laidTests := true, laidLooks := .later }
def OriginPublishedUptoCardSaid : Prop := Claim7.holds Tryz.pinned (.plain (OpenSpec.upto originPublishedSpec)) originPublishedUptoCard
end Rows
end Go.Proofs.YtnnpoodcdibpiaaGreatDoor
