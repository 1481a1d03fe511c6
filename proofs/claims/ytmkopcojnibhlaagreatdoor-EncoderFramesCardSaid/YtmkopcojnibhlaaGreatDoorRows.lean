/-
  NARROWER THAN 'FOR EVERY INPUT', by the rows' own cells (each row's printed sentence says how): EncoderFrames: laid · EncoderRates: laid · EncoderNil: laid · LadderChecks: laid · LadderMakes: laid · LadderHalves: laid · EncoderKeys: laid · EncoderDecoder: laid.
  DERIVED. THE GIVEN ROWS OF THIS SEAT. 8 by the template 'for every input the law returns true; each argument reads behind the call as it read before'; 0 by the template 'total and deterministic' (their statements: YtmkopcojnibhlaaGreatDoorTotals.lean).
  GIVEN WITH THE SEED: the statements are not yours to turn. If you find one false, say at which input.
  Laid BY PROGRAM, IN A SANDBOX (cutbox-rows.mjs): the forced cells as the released guide's own fill.sh prints them over the translation 1ada778ecd90918c… (all of the seat's roots in one cut). By AI agents, Wed Nov 11 2026. No macro, syntax, notation, axiom, sorry.
-/
import Derived.Test.YtmkopcojnibhlaaGreatDoorChecked
import GoSem.Claim
import GoSem.ClaimJoined
import GoSem.ClaimMapViews
import Derived.JoinedTies
import Derived.KernelRfl
namespace Go.Proofs.YtmkopcojnibhlaaGreatDoor
/- THE CELL 'sum', in the pinned program and in every row, IS THE sha256 OF THE DUMP (.gsa) THAT YtmkopcojnibhlaaGreatDoorProg.lean LOADS. Nothing in Lean hashes anything: it is a label: what it is worth is what the hold of that sum in a sandbox is worth. -/
noncomputable def Tryz.pinned : Pinned := { name := "ytmkopcojnibhlaagreatdoor", sum := "1ada778ecd90918cf823703b6e1a37a74a75ea8b9875f399b0c066cc1fd47f83", checked := Tryz.checked }
namespace Rows
def none {H : Type} : Left H := { results := [], args := [] }

/- WHAT THE LISTED PACKAGE-LEVEL VARIABLES READ AS WHEN THE CALL BEGINS. Each datum BY PROGRAM (the guide's laid-datum.mjs) off the statement by which the dump's own 'gosem.cut.vars' lays the variable. In a bare row this is a premise. The card (YtmkopcojnibhlaaGreatDoorCards.lean) ties it to the program's text. -/
def laid_kinora_encoder_places {H : Type} : DataW H := .agg [.agg [.lit (.int .i64 0), .lit (.int .i64 0), .lit (.int .i64 0)], .agg [.lit (.int .i64 0), .lit (.int .i64 8), .lit (.int .i64 0)], .agg [.lit (.int .i64 0), .lit (.int .i64 0), .lit (.int .i64 8)], .agg [.lit (.int .i64 0), .lit (.int .i64 8), .lit (.int .i64 8)], .agg [.lit (.int .i64 1), .lit (.int .i64 0), .lit (.int .i64 0)], .agg [.lit (.int .i64 2), .lit (.int .i64 0), .lit (.int .i64 0)]]

/-- 'kinoralaw14.EncoderFrames': WHATEVER THE INPUT: true; the input reads as it did. -/
def encoderFramesSpec : ChangeSpec := { name := "encoderFrames", fn := fun _ => fun
  | [d1, d2, d3] => { results := [.lit (.bool true)], args := [d1, d2, d3] }
  | _ => none }
def encoderFramesRow : OpenClaim := { program := "ytmkopcojnibhlaagreatdoor", sum := "1ada778ecd90918cf823703b6e1a37a74a75ea8b9875f399b0c066cc1fd47f83", func := "kinora/kinoralaw14.EncoderFrames", spec := "encoderFrames", unfollowed := true, recurses := true, named := ["kinora/encoder.places"], apart := false, laid := [("kinora/encoder.places", laid_kinora_encoder_places)] }
def EncoderFramesSaid : Prop := encoderFramesRow.holds Tryz.pinned (OpenSpec.ofChange encoderFramesSpec)

/-- ITS FALSE NEIGHBOUR: 'it returns false'. Refute it at one input. -/
def encoderFramesWrong : ChangeSpec := { name := "encoderFrames", fn := fun _ => fun
  | [d1, d2, d3] => { results := [.lit (.bool false)], args := [d1, d2, d3] }
  | _ => none }
def EncoderFramesWrongFalsely : Prop := encoderFramesRow.holds Tryz.pinned (OpenSpec.ofChange encoderFramesWrong)

/-- 'kinoralaw14.EncoderRates': WHATEVER THE INPUT: true; the input reads as it did. -/
def encoderRatesSpec : ChangeSpec := { name := "encoderRates", fn := fun _ => fun
  | [d1, d2, d3] => { results := [.lit (.bool true)], args := [d1, d2, d3] }
  | _ => none }
def encoderRatesRow : OpenClaim := { program := "ytmkopcojnibhlaagreatdoor", sum := "1ada778ecd90918cf823703b6e1a37a74a75ea8b9875f399b0c066cc1fd47f83", func := "kinora/kinoralaw14.EncoderRates", spec := "encoderRates", unfollowed := true, recurses := true, named := ["kinora/encoder.places"], apart := false, laid := [("kinora/encoder.places", laid_kinora_encoder_places)] }
def EncoderRatesSaid : Prop := encoderRatesRow.holds Tryz.pinned (OpenSpec.ofChange encoderRatesSpec)

/-- ITS FALSE NEIGHBOUR: 'it returns false'. Refute it at one input. -/
def encoderRatesWrong : ChangeSpec := { name := "encoderRates", fn := fun _ => fun
  | [d1, d2, d3] => { results := [.lit (.bool false)], args := [d1, d2, d3] }
  | _ => none }
def EncoderRatesWrongFalsely : Prop := encoderRatesRow.holds Tryz.pinned (OpenSpec.ofChange encoderRatesWrong)

/-- 'kinoralaw14.EncoderNil': WHATEVER THE INPUT: true; the input reads as it did. -/
def encoderNilSpec : ChangeSpec := { name := "encoderNil", fn := fun _ => fun
  | [d] => { results := [.lit (.bool true)], args := [d] }
  | _ => none }
def encoderNilRow : OpenClaim := { program := "ytmkopcojnibhlaagreatdoor", sum := "1ada778ecd90918cf823703b6e1a37a74a75ea8b9875f399b0c066cc1fd47f83", func := "kinora/kinoralaw14.EncoderNil", spec := "encoderNil", unfollowed := true, recurses := true, named := ["kinora/encoder.places"], apart := false, laid := [("kinora/encoder.places", laid_kinora_encoder_places)] }
def EncoderNilSaid : Prop := encoderNilRow.holds Tryz.pinned (OpenSpec.ofChange encoderNilSpec)

/-- ITS FALSE NEIGHBOUR: 'it returns false'. Refute it at one input. -/
def encoderNilWrong : ChangeSpec := { name := "encoderNil", fn := fun _ => fun
  | [d] => { results := [.lit (.bool false)], args := [d] }
  | _ => none }
def EncoderNilWrongFalsely : Prop := encoderNilRow.holds Tryz.pinned (OpenSpec.ofChange encoderNilWrong)

/-- 'kinoralaw15.LadderChecks': WHATEVER THE INPUT: true; the input reads as it did. -/
def ladderChecksSpec : ChangeSpec := { name := "ladderChecks", fn := fun _ => fun
  | [d1, d2, d3] => { results := [.lit (.bool true)], args := [d1, d2, d3] }
  | _ => none }
def ladderChecksRow : OpenClaim := { program := "ytmkopcojnibhlaagreatdoor", sum := "1ada778ecd90918cf823703b6e1a37a74a75ea8b9875f399b0c066cc1fd47f83", func := "kinora/kinoralaw15.LadderChecks", spec := "ladderChecks", unfollowed := true, recurses := true, named := ["kinora/encoder.places"], apart := false, laid := [("kinora/encoder.places", laid_kinora_encoder_places)] }
def LadderChecksSaid : Prop := ladderChecksRow.holds Tryz.pinned (OpenSpec.ofChange ladderChecksSpec)

/-- ITS FALSE NEIGHBOUR: 'it returns false'. Refute it at one input. -/
def ladderChecksWrong : ChangeSpec := { name := "ladderChecks", fn := fun _ => fun
  | [d1, d2, d3] => { results := [.lit (.bool false)], args := [d1, d2, d3] }
  | _ => none }
def LadderChecksWrongFalsely : Prop := ladderChecksRow.holds Tryz.pinned (OpenSpec.ofChange ladderChecksWrong)

/-- 'kinoralaw15.LadderMakes': WHATEVER THE INPUT: true; the input reads as it did. -/
def ladderMakesSpec : ChangeSpec := { name := "ladderMakes", fn := fun _ => fun
  | [d1, d2, d3] => { results := [.lit (.bool true)], args := [d1, d2, d3] }
  | _ => none }
def ladderMakesRow : OpenClaim := { program := "ytmkopcojnibhlaagreatdoor", sum := "1ada778ecd90918cf823703b6e1a37a74a75ea8b9875f399b0c066cc1fd47f83", func := "kinora/kinoralaw15.LadderMakes", spec := "ladderMakes", unfollowed := true, recurses := true, named := ["kinora/encoder.places"], apart := false, laid := [("kinora/encoder.places", laid_kinora_encoder_places)] }
def LadderMakesSaid : Prop := ladderMakesRow.holds Tryz.pinned (OpenSpec.ofChange ladderMakesSpec)

/-- ITS FALSE NEIGHBOUR: 'it returns false'. Refute it at one input. -/
def ladderMakesWrong : ChangeSpec := { name := "ladderMakes", fn := fun _ => fun
  | [d1, d2, d3] => { results := [.lit (.bool false)], args := [d1, d2, d3] }
  | _ => none }
def LadderMakesWrongFalsely : Prop := ladderMakesRow.holds Tryz.pinned (OpenSpec.ofChange ladderMakesWrong)

/-- 'kinoralaw15.LadderHalves': WHATEVER THE INPUT: true; the input reads as it did. -/
def ladderHalvesSpec : ChangeSpec := { name := "ladderHalves", fn := fun _ => fun
  | [d1, d2, d3] => { results := [.lit (.bool true)], args := [d1, d2, d3] }
  | _ => none }
def ladderHalvesRow : OpenClaim := { program := "ytmkopcojnibhlaagreatdoor", sum := "1ada778ecd90918cf823703b6e1a37a74a75ea8b9875f399b0c066cc1fd47f83", func := "kinora/kinoralaw15.LadderHalves", spec := "ladderHalves", unfollowed := true, recurses := true, named := ["kinora/encoder.places"], apart := false, laid := [("kinora/encoder.places", laid_kinora_encoder_places)] }
def LadderHalvesSaid : Prop := ladderHalvesRow.holds Tryz.pinned (OpenSpec.ofChange ladderHalvesSpec)

/-- ITS FALSE NEIGHBOUR: 'it returns false'. Refute it at one input. -/
def ladderHalvesWrong : ChangeSpec := { name := "ladderHalves", fn := fun _ => fun
  | [d1, d2, d3] => { results := [.lit (.bool false)], args := [d1, d2, d3] }
  | _ => none }
def LadderHalvesWrongFalsely : Prop := ladderHalvesRow.holds Tryz.pinned (OpenSpec.ofChange ladderHalvesWrong)

/-- 'kinoralaw14.EncoderKeys': WHATEVER THE INPUT: true; the input reads as it did. -/
def encoderKeysSpec : ChangeSpec := { name := "encoderKeys", fn := fun _ => fun
  | [d1, d2, d3] => { results := [.lit (.bool true)], args := [d1, d2, d3] }
  | _ => none }
def encoderKeysRow : OpenClaim := { program := "ytmkopcojnibhlaagreatdoor", sum := "1ada778ecd90918cf823703b6e1a37a74a75ea8b9875f399b0c066cc1fd47f83", func := "kinora/kinoralaw14.EncoderKeys", spec := "encoderKeys", unfollowed := true, recurses := true, named := ["kinora/encoder.places"], apart := false, laid := [("kinora/encoder.places", laid_kinora_encoder_places)] }
def EncoderKeysSaid : Prop := encoderKeysRow.holds Tryz.pinned (OpenSpec.ofChange encoderKeysSpec)

/-- ITS FALSE NEIGHBOUR: 'it returns false'. Refute it at one input. -/
def encoderKeysWrong : ChangeSpec := { name := "encoderKeys", fn := fun _ => fun
  | [d1, d2, d3] => { results := [.lit (.bool false)], args := [d1, d2, d3] }
  | _ => none }
def EncoderKeysWrongFalsely : Prop := encoderKeysRow.holds Tryz.pinned (OpenSpec.ofChange encoderKeysWrong)

/-- 'kinoralaw14.EncoderDecoder': WHATEVER THE INPUT: true; the input reads as it did. -/
def encoderDecoderSpec : ChangeSpec := { name := "encoderDecoder", fn := fun _ => fun
  | [d1, d2, d3] => { results := [.lit (.bool true)], args := [d1, d2, d3] }
  | _ => none }
def encoderDecoderRow : OpenClaim := { program := "ytmkopcojnibhlaagreatdoor", sum := "1ada778ecd90918cf823703b6e1a37a74a75ea8b9875f399b0c066cc1fd47f83", func := "kinora/kinoralaw14.EncoderDecoder", spec := "encoderDecoder", unfollowed := true, recurses := true, named := ["kinora/encoder.places"], apart := false, laid := [("kinora/encoder.places", laid_kinora_encoder_places)] }
def EncoderDecoderSaid : Prop := encoderDecoderRow.holds Tryz.pinned (OpenSpec.ofChange encoderDecoderSpec)

/-- ITS FALSE NEIGHBOUR: 'it returns false'. Refute it at one input. -/
def encoderDecoderWrong : ChangeSpec := { name := "encoderDecoder", fn := fun _ => fun
  | [d1, d2, d3] => { results := [.lit (.bool false)], args := [d1, d2, d3] }
  | _ => none }
def EncoderDecoderWrongFalsely : Prop := encoderDecoderRow.holds Tryz.pinned (OpenSpec.ofChange encoderDecoderWrong)

/- THE SECOND FORM. 'bulk': how many values and letters a reading holds, each counted each time it is reached (what is shared counts as often as it is met; a slice's spare places count too). A statement '..UptoSaid' is the law's where the arguments, and the package variables that the reading takes, are together of bulk at most 1048576: NARROWER than '..Said'. Prove '..Said' where nothing that the law and all that it calls make is longer than what came in: it says more and counts as full. Else prove '..UptoSaid'. A law counts once. -/
mutual
def uptoBulk {H : Type} : DataW H → Nat
  | .lit (.string bytes) => bytes.length + 1
  | .lit _ => 1
  | .nil => 1
  | .ptr d => uptoBulk d + 1
  | .slice elems spare => uptoBulkAll elems + uptoBulkAll spare + 1
  | .agg parts => uptoBulkAll parts + 1
  | .iface _ d => uptoBulk d + 1
  | .map entries => uptoBulkEntries entries + 1
  | .held _ => 1
def uptoBulkAll {H : Type} : List (DataW H) → Nat
  | [] => 0
  | d :: r => uptoBulk d + uptoBulkAll r
def uptoBulkEntries {H : Type} : List (Lit × DataW H) → Nat
  | [] => 0
  | x :: r => uptoBulkEntry x + uptoBulkEntries r
def uptoBulkEntry {H : Type} : Lit × DataW H → Nat
  | (.string bytes, d) => bytes.length + uptoBulk d + 1
  | (_, d) => uptoBulk d + 1
 end
def uptoSmall : (H : Type) → List (DataW H) → Bool := fun _ ds => decide (uptoBulkAll ds ≤ 1048576)
def OpenSpec.upto (s : _root_.Go.ChangeSpec) : _root_.Go.OpenSpec := { _root_.Go.OpenSpec.ofChange s with cond := some uptoSmall }

/-- 'kinoralaw14.EncoderFrames', WHERE WHAT IT READS IS OF BULK AT MOST 1048576: true; the input reads as it did. -/
def encoderFramesUptoRow : OpenClaim := { program := "ytmkopcojnibhlaagreatdoor", sum := "1ada778ecd90918cf823703b6e1a37a74a75ea8b9875f399b0c066cc1fd47f83", func := "kinora/kinoralaw14.EncoderFrames", spec := "encoderFrames", unfollowed := true, recurses := true, named := ["kinora/encoder.places"], apart := false, laid := [("kinora/encoder.places", laid_kinora_encoder_places)], narrowed := true }
def EncoderFramesUptoSaid : Prop := encoderFramesUptoRow.holds Tryz.pinned (OpenSpec.upto encoderFramesSpec)

/-- 'kinoralaw14.EncoderRates', WHERE WHAT IT READS IS OF BULK AT MOST 1048576: true; the input reads as it did. -/
def encoderRatesUptoRow : OpenClaim := { program := "ytmkopcojnibhlaagreatdoor", sum := "1ada778ecd90918cf823703b6e1a37a74a75ea8b9875f399b0c066cc1fd47f83", func := "kinora/kinoralaw14.EncoderRates", spec := "encoderRates", unfollowed := true, recurses := true, named := ["kinora/encoder.places"], apart := false, laid := [("kinora/encoder.places", laid_kinora_encoder_places)], narrowed := true }
def EncoderRatesUptoSaid : Prop := encoderRatesUptoRow.holds Tryz.pinned (OpenSpec.upto encoderRatesSpec)

/-- 'kinoralaw14.EncoderNil', WHERE WHAT IT READS IS OF BULK AT MOST 1048576: true; the input reads as it did. -/
def encoderNilUptoRow : OpenClaim := { program := "ytmkopcojnibhlaagreatdoor", sum := "1ada778ecd90918cf823703b6e1a37a74a75ea8b9875f399b0c066cc1fd47f83", func := "kinora/kinoralaw14.EncoderNil", spec := "encoderNil", unfollowed := true, recurses := true, named := ["kinora/encoder.places"], apart := false, laid := [("kinora/encoder.places", laid_kinora_encoder_places)], narrowed := true }
def EncoderNilUptoSaid : Prop := encoderNilUptoRow.holds Tryz.pinned (OpenSpec.upto encoderNilSpec)

/-- 'kinoralaw15.LadderChecks', WHERE WHAT IT READS IS OF BULK AT MOST 1048576: true; the input reads as it did. -/
def ladderChecksUptoRow : OpenClaim := { program := "ytmkopcojnibhlaagreatdoor", sum := "1ada778ecd90918cf823703b6e1a37a74a75ea8b9875f399b0c066cc1fd47f83", func := "kinora/kinoralaw15.LadderChecks", spec := "ladderChecks", unfollowed := true, recurses := true, named := ["kinora/encoder.places"], apart := false, laid := [("kinora/encoder.places", laid_kinora_encoder_places)], narrowed := true }
def LadderChecksUptoSaid : Prop := ladderChecksUptoRow.holds Tryz.pinned (OpenSpec.upto ladderChecksSpec)

/-- 'kinoralaw15.LadderMakes', WHERE WHAT IT READS IS OF BULK AT MOST 1048576: true; the input reads as it did. -/
def ladderMakesUptoRow : OpenClaim := { program := "ytmkopcojnibhlaagreatdoor", sum := "1ada778ecd90918cf823703b6e1a37a74a75ea8b9875f399b0c066cc1fd47f83", func := "kinora/kinoralaw15.LadderMakes", spec := "ladderMakes", unfollowed := true, recurses := true, named := ["kinora/encoder.places"], apart := false, laid := [("kinora/encoder.places", laid_kinora_encoder_places)], narrowed := true }
def LadderMakesUptoSaid : Prop := ladderMakesUptoRow.holds Tryz.pinned (OpenSpec.upto ladderMakesSpec)

/-- 'kinoralaw15.LadderHalves', WHERE WHAT IT READS IS OF BULK AT MOST 1048576: true; the input reads as it did. -/
def ladderHalvesUptoRow : OpenClaim := { program := "ytmkopcojnibhlaagreatdoor", sum := "1ada778ecd90918cf823703b6e1a37a74a75ea8b9875f399b0c066cc1fd47f83", func := "kinora/kinoralaw15.LadderHalves", spec := "ladderHalves", unfollowed := true, recurses := true, named := ["kinora/encoder.places"], apart := false, laid := [("kinora/encoder.places", laid_kinora_encoder_places)], narrowed := true }
def LadderHalvesUptoSaid : Prop := ladderHalvesUptoRow.holds Tryz.pinned (OpenSpec.upto ladderHalvesSpec)

/-- 'kinoralaw14.EncoderKeys', WHERE WHAT IT READS IS OF BULK AT MOST 1048576: true; the input reads as it did. -/
def encoderKeysUptoRow : OpenClaim := { program := "ytmkopcojnibhlaagreatdoor", sum := "1ada778ecd90918cf823703b6e1a37a74a75ea8b9875f399b0c066cc1fd47f83", func := "kinora/kinoralaw14.EncoderKeys", spec := "encoderKeys", unfollowed := true, recurses := true, named := ["kinora/encoder.places"], apart := false, laid := [("kinora/encoder.places", laid_kinora_encoder_places)], narrowed := true }
def EncoderKeysUptoSaid : Prop := encoderKeysUptoRow.holds Tryz.pinned (OpenSpec.upto encoderKeysSpec)

/-- 'kinoralaw14.EncoderDecoder', WHERE WHAT IT READS IS OF BULK AT MOST 1048576: true; the input reads as it did. -/
def encoderDecoderUptoRow : OpenClaim := { program := "ytmkopcojnibhlaagreatdoor", sum := "1ada778ecd90918cf823703b6e1a37a74a75ea8b9875f399b0c066cc1fd47f83", func := "kinora/kinoralaw14.EncoderDecoder", spec := "encoderDecoder", unfollowed := true, recurses := true, named := ["kinora/encoder.places"], apart := false, laid := [("kinora/encoder.places", laid_kinora_encoder_places)], narrowed := true }
def EncoderDecoderUptoSaid : Prop := encoderDecoderUptoRow.holds Tryz.pinned (OpenSpec.upto encoderDecoderSpec)

end Rows
end Go.Proofs.YtmkopcojnibhlaaGreatDoor
