/-
  DERIVED. GIVEN WITH THE SEED: THE CARDS: each row of YtkobngipbhjfjaaDoorRows.lean that lists a variable, with what it lists TIED to the program's text (the seventh form; the later family's looks); each row that meets fmt, with fmt's text TOLD by the authors' own Lean function (tested against real Go, not proved from fmt's source: count such statements apart). THE CARD IS WHAT COUNTS. Prove the row's statement (the work); the ties are given (YtkobngipbhjfjaaDoorTie.lean); close each card by the builder's one call (the guide's Derived/Test/ToyasCard.lean, 'card_holds'). Laid BY PROGRAM, IN A SANDBOX (cutbox-door.mjs). By AI agents, Wed Nov 11 2026. No macro, syntax, notation, axiom, sorry.
-/
import Derived.Test.YtkobngipbhjfjaaDoorRows
import GoSem.ClaimSeven
namespace Go.Proofs.YtkobngipbhjfjaaDoor
namespace Rows

/-- THE TIED CARD OF 'kinoralaw18.ManifestTells'. -/
def manifestTellsCard : Claim7 := { stood := { row := manifestTellsRow, standIns := [], harness := (true, "b499fe35b9d99e56e704f41cffd03d0b445827f29f84dc78866dc651fd3aacb3"), looks := true }, kinds := [], alts := [], laidByText := true, laidKinds := [.data, .data, .data, .data, .sentinel, .sentinel, .pinned], laidTests := true, laidLooks := .later }
def ManifestTellsCardSaid : Prop := Claim7.holds Tryd.pinned (.plain (OpenSpec.ofChange manifestTellsSpec)) manifestTellsCard

/-- THE TIED CARD OF 'kinoralaw18.ManifestParses'. -/
def manifestParsesCard : Claim7 := { stood := { row := manifestParsesRow, standIns := [], harness := (true, "b499fe35b9d99e56e704f41cffd03d0b445827f29f84dc78866dc651fd3aacb3"), looks := true }, kinds := [], alts := [], laidByText := true, laidKinds := [.data, .data, .data, .data, .sentinel, .sentinel, .pinned], laidTests := true, laidLooks := .later }
def ManifestParsesCardSaid : Prop := Claim7.holds Tryd.pinned (.plain (OpenSpec.ofChange manifestParsesSpec)) manifestParsesCard

/-- THE TIED CARD OF 'kinoralaw18.ManifestBack'. -/
def manifestBackCard : Claim7 := { stood := { row := manifestBackRow, standIns := [], harness := (true, "b499fe35b9d99e56e704f41cffd03d0b445827f29f84dc78866dc651fd3aacb3"), looks := true }, kinds := [], alts := [], laidByText := true, laidKinds := [.data, .data, .data, .data, .sentinel, .sentinel, .pinned], laidTests := true, laidLooks := .later }
def ManifestBackCardSaid : Prop := Claim7.holds Tryd.pinned (.plain (OpenSpec.ofChange manifestBackSpec)) manifestBackCard

/-- THE TIED CARD OF 'kinoralaw18.ManifestSame'. -/
def manifestSameCard : Claim7 := { stood := { row := manifestSameRow, standIns := [], harness := (true, "b499fe35b9d99e56e704f41cffd03d0b445827f29f84dc78866dc651fd3aacb3"), looks := true }, kinds := [], alts := [], laidByText := true, laidKinds := [.data, .data, .data, .data, .sentinel, .sentinel, .pinned], laidTests := true, laidLooks := .later }
def ManifestSameCardSaid : Prop := Claim7.holds Tryd.pinned (.plain (OpenSpec.ofChange manifestSameSpec)) manifestSameCard

/-- THE TIED CARD OF 'kinoralaw18.ManifestAligns'. -/
def manifestAlignsCard : Claim7 := { stood := { row := manifestAlignsRow, standIns := [], harness := (true, "b499fe35b9d99e56e704f41cffd03d0b445827f29f84dc78866dc651fd3aacb3"), looks := true }, kinds := [], alts := [], laidByText := true, laidKinds := [.data, .data, .data, .data, .sentinel, .sentinel, .pinned], laidTests := true, laidLooks := .later }
def ManifestAlignsCardSaid : Prop := Claim7.holds Tryd.pinned (.plain (OpenSpec.ofChange manifestAlignsSpec)) manifestAlignsCard

/-- THE TIED CARD OF 'kinoralaw18.ManifestLines'. -/
def manifestLinesCard : Claim7 := { stood := { row := manifestLinesRow, standIns := [], harness := (true, "b499fe35b9d99e56e704f41cffd03d0b445827f29f84dc78866dc651fd3aacb3"), looks := true }, kinds := [], alts := [], laidByText := true, laidKinds := [.data, .data, .data, .data, .sentinel, .sentinel, .pinned], laidTests := true, laidLooks := .later }
def ManifestLinesCardSaid : Prop := Claim7.holds Tryd.pinned (.plain (OpenSpec.ofChange manifestLinesSpec)) manifestLinesCard

/-- THE SECOND FORM's CARD OF 'kinoralaw18.ManifestTells'. -/
def manifestTellsUptoCard : Claim7 := { stood := { row := manifestTellsUptoRow, standIns := [], harness := (true, "b499fe35b9d99e56e704f41cffd03d0b445827f29f84dc78866dc651fd3aacb3"), looks := true }, kinds := [], alts := [], laidByText := true, laidKinds := [.data, .data, .data, .data, .sentinel, .sentinel, .pinned], laidTests := true, laidLooks := .later }
def ManifestTellsUptoCardSaid : Prop := Claim7.holds Tryd.pinned (.plain (OpenSpec.upto manifestTellsSpec)) manifestTellsUptoCard

/-- THE SECOND FORM's CARD OF 'kinoralaw18.ManifestParses'. -/
def manifestParsesUptoCard : Claim7 := { stood := { row := manifestParsesUptoRow, standIns := [], harness := (true, "b499fe35b9d99e56e704f41cffd03d0b445827f29f84dc78866dc651fd3aacb3"), looks := true }, kinds := [], alts := [], laidByText := true, laidKinds := [.data, .data, .data, .data, .sentinel, .sentinel, .pinned], laidTests := true, laidLooks := .later }
def ManifestParsesUptoCardSaid : Prop := Claim7.holds Tryd.pinned (.plain (OpenSpec.upto manifestParsesSpec)) manifestParsesUptoCard

/-- THE SECOND FORM's CARD OF 'kinoralaw18.ManifestBack'. -/
def manifestBackUptoCard : Claim7 := { stood := { row := manifestBackUptoRow, standIns := [], harness := (true, "b499fe35b9d99e56e704f41cffd03d0b445827f29f84dc78866dc651fd3aacb3"), looks := true }, kinds := [], alts := [], laidByText := true, laidKinds := [.data, .data, .data, .data, .sentinel, .sentinel, .pinned], laidTests := true, laidLooks := .later }
def ManifestBackUptoCardSaid : Prop := Claim7.holds Tryd.pinned (.plain (OpenSpec.upto manifestBackSpec)) manifestBackUptoCard

/-- THE SECOND FORM's CARD OF 'kinoralaw18.ManifestSame'. -/
def manifestSameUptoCard : Claim7 := { stood := { row := manifestSameUptoRow, standIns := [], harness := (true, "b499fe35b9d99e56e704f41cffd03d0b445827f29f84dc78866dc651fd3aacb3"), looks := true }, kinds := [], alts := [], laidByText := true, laidKinds := [.data, .data, .data, .data, .sentinel, .sentinel, .pinned], laidTests := true, laidLooks := .later }
def ManifestSameUptoCardSaid : Prop := Claim7.holds Tryd.pinned (.plain (OpenSpec.upto manifestSameSpec)) manifestSameUptoCard

/-- THE SECOND FORM's CARD OF 'kinoralaw18.ManifestAligns'. -/
def manifestAlignsUptoCard : Claim7 := { stood := { row := manifestAlignsUptoRow, standIns := [], harness := (true, "b499fe35b9d99e56e704f41cffd03d0b445827f29f84dc78866dc651fd3aacb3"), looks := true }, kinds := [], alts := [], laidByText := true, laidKinds := [.data, .data, .data, .data, .sentinel, .sentinel, .pinned], laidTests := true, laidLooks := .later }
def ManifestAlignsUptoCardSaid : Prop := Claim7.holds Tryd.pinned (.plain (OpenSpec.upto manifestAlignsSpec)) manifestAlignsUptoCard

/-- THE SECOND FORM's CARD OF 'kinoralaw18.ManifestLines'. -/
def manifestLinesUptoCard : Claim7 := { stood := { row := manifestLinesUptoRow, standIns := [], harness := (true, "b499fe35b9d99e56e704f41cffd03d0b445827f29f84dc78866dc651fd3aacb3"), looks := true }, kinds := [], alts := [], laidByText := true, laidKinds := [.data, .data, .data, .data, .sentinel, .sentinel, .pinned], laidTests := true, laidLooks := .later }
def ManifestLinesUptoCardSaid : Prop := Claim7.holds Tryd.pinned (.plain (OpenSpec.upto manifestLinesSpec)) manifestLinesUptoCard
end Rows
end Go.Proofs.YtkobngipbhjfjaaDoor
