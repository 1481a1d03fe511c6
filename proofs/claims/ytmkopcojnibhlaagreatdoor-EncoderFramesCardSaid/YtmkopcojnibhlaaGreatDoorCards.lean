/-
  DERIVED. GIVEN WITH THE SEED: THE CARDS: each row of YtmkopcojnibhlaaGreatDoorRows.lean that lists a variable, with what it lists TIED to the program's text (the seventh form; the later family's looks); each row that meets fmt, with fmt's text TOLD by the authors' own Lean function (tested against real Go, not proved from fmt's source: count such statements apart). THE CARD IS WHAT COUNTS. Prove the row's statement (the work); the ties are given (YtmkopcojnibhlaaGreatDoorTie.lean); close each card by the builder's one call (the guide's Derived/Test/ToyasCard.lean, 'card_holds'). Laid BY PROGRAM, IN A SANDBOX (cutbox-door.mjs). By AI agents, Wed Nov 11 2026. No macro, syntax, notation, axiom, sorry.
-/
import Derived.Test.YtmkopcojnibhlaaGreatDoorRows
import GoSem.ClaimSeven
namespace Go.Proofs.YtmkopcojnibhlaaGreatDoor
namespace Rows

/-- THE TIED CARD OF 'kinoralaw14.EncoderFrames'. -/
def encoderFramesCard : Claim7 := { stood := { row := encoderFramesRow, standIns := [], harness := (true, "58de976e2f321ce60ed0deecb204feaba144af9924f3e34e2bed6b72e9ae46e5"), looks := false }, kinds := [], alts := [], laidByText := true, laidKinds := [.data], laidTests := true, laidLooks := .later }
def EncoderFramesCardSaid : Prop := Claim7.holds Tryz.pinned (.plain (OpenSpec.ofChange encoderFramesSpec)) encoderFramesCard

/-- THE TIED CARD OF 'kinoralaw14.EncoderRates'. -/
def encoderRatesCard : Claim7 := { stood := { row := encoderRatesRow, standIns := [], harness := (true, "58de976e2f321ce60ed0deecb204feaba144af9924f3e34e2bed6b72e9ae46e5"), looks := false }, kinds := [], alts := [], laidByText := true, laidKinds := [.data], laidTests := true, laidLooks := .later }
def EncoderRatesCardSaid : Prop := Claim7.holds Tryz.pinned (.plain (OpenSpec.ofChange encoderRatesSpec)) encoderRatesCard

/-- THE TIED CARD OF 'kinoralaw14.EncoderNil'. -/
def encoderNilCard : Claim7 := { stood := { row := encoderNilRow, standIns := [], harness := (true, "58de976e2f321ce60ed0deecb204feaba144af9924f3e34e2bed6b72e9ae46e5"), looks := false }, kinds := [], alts := [], laidByText := true, laidKinds := [.data], laidTests := true, laidLooks := .later }
def EncoderNilCardSaid : Prop := Claim7.holds Tryz.pinned (.plain (OpenSpec.ofChange encoderNilSpec)) encoderNilCard

/-- THE TIED CARD OF 'kinoralaw15.LadderChecks'. -/
def ladderChecksCard : Claim7 := { stood := { row := ladderChecksRow, standIns := [], harness := (true, "58de976e2f321ce60ed0deecb204feaba144af9924f3e34e2bed6b72e9ae46e5"), looks := false }, kinds := [], alts := [], laidByText := true, laidKinds := [.data], laidTests := true, laidLooks := .later }
def LadderChecksCardSaid : Prop := Claim7.holds Tryz.pinned (.plain (OpenSpec.ofChange ladderChecksSpec)) ladderChecksCard

/-- THE TIED CARD OF 'kinoralaw15.LadderMakes'. -/
def ladderMakesCard : Claim7 := { stood := { row := ladderMakesRow, standIns := [], harness := (true, "58de976e2f321ce60ed0deecb204feaba144af9924f3e34e2bed6b72e9ae46e5"), looks := false }, kinds := [], alts := [], laidByText := true, laidKinds := [.data], laidTests := true, laidLooks := .later }
def LadderMakesCardSaid : Prop := Claim7.holds Tryz.pinned (.plain (OpenSpec.ofChange ladderMakesSpec)) ladderMakesCard

/-- THE TIED CARD OF 'kinoralaw15.LadderHalves'. -/
def ladderHalvesCard : Claim7 := { stood := { row := ladderHalvesRow, standIns := [], harness := (true, "58de976e2f321ce60ed0deecb204feaba144af9924f3e34e2bed6b72e9ae46e5"), looks := false }, kinds := [], alts := [], laidByText := true, laidKinds := [.data], laidTests := true, laidLooks := .later }
def LadderHalvesCardSaid : Prop := Claim7.holds Tryz.pinned (.plain (OpenSpec.ofChange ladderHalvesSpec)) ladderHalvesCard

/-- THE TIED CARD OF 'kinoralaw14.EncoderKeys'. -/
def encoderKeysCard : Claim7 := { stood := { row := encoderKeysRow, standIns := [], harness := (true, "58de976e2f321ce60ed0deecb204feaba144af9924f3e34e2bed6b72e9ae46e5"), looks := false }, kinds := [], alts := [], laidByText := true, laidKinds := [.data], laidTests := true, laidLooks := .later }
def EncoderKeysCardSaid : Prop := Claim7.holds Tryz.pinned (.plain (OpenSpec.ofChange encoderKeysSpec)) encoderKeysCard

/-- THE TIED CARD OF 'kinoralaw14.EncoderDecoder'. -/
def encoderDecoderCard : Claim7 := { stood := { row := encoderDecoderRow, standIns := [], harness := (true, "58de976e2f321ce60ed0deecb204feaba144af9924f3e34e2bed6b72e9ae46e5"), looks := false }, kinds := [], alts := [], laidByText := true, laidKinds := [.data], laidTests := true, laidLooks := .later }
def EncoderDecoderCardSaid : Prop := Claim7.holds Tryz.pinned (.plain (OpenSpec.ofChange encoderDecoderSpec)) encoderDecoderCard

/-- THE SECOND FORM's CARD OF 'kinoralaw14.EncoderFrames'. -/
def encoderFramesUptoCard : Claim7 := { stood := { row := encoderFramesUptoRow, standIns := [], harness := (true, "58de976e2f321ce60ed0deecb204feaba144af9924f3e34e2bed6b72e9ae46e5"), looks := false }, kinds := [], alts := [], laidByText := true, laidKinds := [.data], laidTests := true, laidLooks := .later }
def EncoderFramesUptoCardSaid : Prop := Claim7.holds Tryz.pinned (.plain (OpenSpec.upto encoderFramesSpec)) encoderFramesUptoCard

/-- THE SECOND FORM's CARD OF 'kinoralaw14.EncoderRates'. -/
def encoderRatesUptoCard : Claim7 := { stood := { row := encoderRatesUptoRow, standIns := [], harness := (true, "58de976e2f321ce60ed0deecb204feaba144af9924f3e34e2bed6b72e9ae46e5"), looks := false }, kinds := [], alts := [], laidByText := true, laidKinds := [.data], laidTests := true, laidLooks := .later }
def EncoderRatesUptoCardSaid : Prop := Claim7.holds Tryz.pinned (.plain (OpenSpec.upto encoderRatesSpec)) encoderRatesUptoCard

/-- THE SECOND FORM's CARD OF 'kinoralaw14.EncoderNil'. -/
def encoderNilUptoCard : Claim7 := { stood := { row := encoderNilUptoRow, standIns := [], harness := (true, "58de976e2f321ce60ed0deecb204feaba144af9924f3e34e2bed6b72e9ae46e5"), looks := false }, kinds := [], alts := [], laidByText := true, laidKinds := [.data], laidTests := true, laidLooks := .later }
def EncoderNilUptoCardSaid : Prop := Claim7.holds Tryz.pinned (.plain (OpenSpec.upto encoderNilSpec)) encoderNilUptoCard

/-- THE SECOND FORM's CARD OF 'kinoralaw15.LadderChecks'. -/
def ladderChecksUptoCard : Claim7 := { stood := { row := ladderChecksUptoRow, standIns := [], harness := (true, "58de976e2f321ce60ed0deecb204feaba144af9924f3e34e2bed6b72e9ae46e5"), looks := false }, kinds := [], alts := [], laidByText := true, laidKinds := [.data], laidTests := true, laidLooks := .later }
def LadderChecksUptoCardSaid : Prop := Claim7.holds Tryz.pinned (.plain (OpenSpec.upto ladderChecksSpec)) ladderChecksUptoCard

/-- THE SECOND FORM's CARD OF 'kinoralaw15.LadderMakes'. -/
def ladderMakesUptoCard : Claim7 := { stood := { row := ladderMakesUptoRow, standIns := [], harness := (true, "58de976e2f321ce60ed0deecb204feaba144af9924f3e34e2bed6b72e9ae46e5"), looks := false }, kinds := [], alts := [], laidByText := true, laidKinds := [.data], laidTests := true, laidLooks := .later }
def LadderMakesUptoCardSaid : Prop := Claim7.holds Tryz.pinned (.plain (OpenSpec.upto ladderMakesSpec)) ladderMakesUptoCard

/-- THE SECOND FORM's CARD OF 'kinoralaw15.LadderHalves'. -/
def ladderHalvesUptoCard : Claim7 := { stood := { row := ladderHalvesUptoRow, standIns := [], harness := (true, "58de976e2f321ce60ed0deecb204feaba144af9924f3e34e2bed6b72e9ae46e5"), looks := false }, kinds := [], alts := [], laidByText := true, laidKinds := [.data], laidTests := true, laidLooks := .later }
def LadderHalvesUptoCardSaid : Prop := Claim7.holds Tryz.pinned (.plain (OpenSpec.upto ladderHalvesSpec)) ladderHalvesUptoCard

/-- THE SECOND FORM's CARD OF 'kinoralaw14.EncoderKeys'. -/
def encoderKeysUptoCard : Claim7 := { stood := { row := encoderKeysUptoRow, standIns := [], harness := (true, "58de976e2f321ce60ed0deecb204feaba144af9924f3e34e2bed6b72e9ae46e5"), looks := false }, kinds := [], alts := [], laidByText := true, laidKinds := [.data], laidTests := true, laidLooks := .later }
def EncoderKeysUptoCardSaid : Prop := Claim7.holds Tryz.pinned (.plain (OpenSpec.upto encoderKeysSpec)) encoderKeysUptoCard

/-- THE SECOND FORM's CARD OF 'kinoralaw14.EncoderDecoder'. -/
def encoderDecoderUptoCard : Claim7 := { stood := { row := encoderDecoderUptoRow, standIns := [], harness := (true, "58de976e2f321ce60ed0deecb204feaba144af9924f3e34e2bed6b72e9ae46e5"), looks := false }, kinds := [], alts := [], laidByText := true, laidKinds := [.data], laidTests := true, laidLooks := .later }
def EncoderDecoderUptoCardSaid : Prop := Claim7.holds Tryz.pinned (.plain (OpenSpec.upto encoderDecoderSpec)) encoderDecoderUptoCard
end Rows
end Go.Proofs.YtmkopcojnibhlaaGreatDoor
