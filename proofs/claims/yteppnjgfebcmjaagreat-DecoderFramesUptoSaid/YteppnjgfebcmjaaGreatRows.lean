/-
  No cell of these rows narrows 'for every input' (looked for: loops, veiled, ifaces, maps, wideKeys, modest, calm, conditions, laid).
  DERIVED. THE GIVEN ROWS OF THIS SEAT. 5 by the template 'for every input the law returns true; each argument reads behind the call as it read before'; 0 by the template 'total and deterministic' (their statements: YteppnjgfebcmjaaGreatTotals.lean).
  GIVEN WITH THE SEED: the statements are not yours to turn. If you find one false, say at which input.
  Laid BY PROGRAM, IN A SANDBOX (cutbox-rows.mjs): the forced cells as the released guide's own fill.sh prints them over the translation 8d53f95005b06992… (all of the seat's roots in one cut). By AI agents, Wed Nov 11 2026. No macro, syntax, notation, axiom, sorry.
-/
import Derived.Test.YteppnjgfebcmjaaGreatChecked
import GoSem.Claim
import GoSem.ClaimJoined
import GoSem.ClaimMapViews
import Derived.JoinedTies
import Derived.KernelRfl
namespace Go.Proofs.YteppnjgfebcmjaaGreat
/- THE CELL 'sum', in the pinned program and in every row, IS THE sha256 OF THE DUMP (.gsa) THAT YteppnjgfebcmjaaGreatProg.lean LOADS. Nothing in Lean hashes anything: it is a label: what it is worth is what the hold of that sum in a sandbox is worth. -/
noncomputable def Tryz.pinned : Pinned := { name := "yteppnjgfebcmjaagreat", sum := "8d53f95005b06992463979ea83cddba7bdf5e062b8c0603976bdc4c1c786582d", checked := Tryz.checked }
namespace Rows
def none {H : Type} : Left H := { results := [], args := [] }

/-- 'kinoralaw13.DecoderFrames': WHATEVER THE INPUT: true; the input reads as it did. -/
def decoderFramesSpec : ChangeSpec := { name := "decoderFrames", fn := fun _ => fun
  | [d1, d2] => { results := [.lit (.bool true)], args := [d1, d2] }
  | _ => none }
def decoderFramesRow : OpenClaim := { program := "yteppnjgfebcmjaagreat", sum := "8d53f95005b06992463979ea83cddba7bdf5e062b8c0603976bdc4c1c786582d", func := "kinora/kinoralaw13.DecoderFrames", spec := "decoderFrames", unfollowed := true, recurses := true, apart := false }
def DecoderFramesSaid : Prop := decoderFramesRow.holds Tryz.pinned (OpenSpec.ofChange decoderFramesSpec)

/-- ITS FALSE NEIGHBOUR: 'it returns false'. Refute it at one input. -/
def decoderFramesWrong : ChangeSpec := { name := "decoderFrames", fn := fun _ => fun
  | [d1, d2] => { results := [.lit (.bool false)], args := [d1, d2] }
  | _ => none }
def DecoderFramesWrongFalsely : Prop := decoderFramesRow.holds Tryz.pinned (OpenSpec.ofChange decoderFramesWrong)

/-- 'kinoralaw13.DecoderBuilds': WHATEVER THE INPUT: true; the input reads as it did. -/
def decoderBuildsSpec : ChangeSpec := { name := "decoderBuilds", fn := fun _ => fun
  | [d1, d2, d3] => { results := [.lit (.bool true)], args := [d1, d2, d3] }
  | _ => none }
def decoderBuildsRow : OpenClaim := { program := "yteppnjgfebcmjaagreat", sum := "8d53f95005b06992463979ea83cddba7bdf5e062b8c0603976bdc4c1c786582d", func := "kinora/kinoralaw13.DecoderBuilds", spec := "decoderBuilds", unfollowed := true, recurses := true, apart := false }
def DecoderBuildsSaid : Prop := decoderBuildsRow.holds Tryz.pinned (OpenSpec.ofChange decoderBuildsSpec)

/-- ITS FALSE NEIGHBOUR: 'it returns false'. Refute it at one input. -/
def decoderBuildsWrong : ChangeSpec := { name := "decoderBuilds", fn := fun _ => fun
  | [d1, d2, d3] => { results := [.lit (.bool false)], args := [d1, d2, d3] }
  | _ => none }
def DecoderBuildsWrongFalsely : Prop := decoderBuildsRow.holds Tryz.pinned (OpenSpec.ofChange decoderBuildsWrong)

/-- 'kinoralaw13.DecoderNil': WHATEVER THE INPUT: true; the input reads as it did. -/
def decoderNilSpec : ChangeSpec := { name := "decoderNil", fn := fun _ => fun
  | [d] => { results := [.lit (.bool true)], args := [d] }
  | _ => none }
def decoderNilRow : OpenClaim := { program := "yteppnjgfebcmjaagreat", sum := "8d53f95005b06992463979ea83cddba7bdf5e062b8c0603976bdc4c1c786582d", func := "kinora/kinoralaw13.DecoderNil", spec := "decoderNil", unfollowed := true, recurses := true, apart := false }
def DecoderNilSaid : Prop := decoderNilRow.holds Tryz.pinned (OpenSpec.ofChange decoderNilSpec)

/-- ITS FALSE NEIGHBOUR: 'it returns false'. Refute it at one input. -/
def decoderNilWrong : ChangeSpec := { name := "decoderNil", fn := fun _ => fun
  | [d] => { results := [.lit (.bool false)], args := [d] }
  | _ => none }
def DecoderNilWrongFalsely : Prop := decoderNilRow.holds Tryz.pinned (OpenSpec.ofChange decoderNilWrong)

/-- 'kinoralaw13.DecoderKeys': WHATEVER THE INPUT: true; the input reads as it did. -/
def decoderKeysSpec : ChangeSpec := { name := "decoderKeys", fn := fun _ => fun
  | [d1, d2, d3] => { results := [.lit (.bool true)], args := [d1, d2, d3] }
  | _ => none }
def decoderKeysRow : OpenClaim := { program := "yteppnjgfebcmjaagreat", sum := "8d53f95005b06992463979ea83cddba7bdf5e062b8c0603976bdc4c1c786582d", func := "kinora/kinoralaw13.DecoderKeys", spec := "decoderKeys", unfollowed := true, recurses := true, apart := false }
def DecoderKeysSaid : Prop := decoderKeysRow.holds Tryz.pinned (OpenSpec.ofChange decoderKeysSpec)

/-- ITS FALSE NEIGHBOUR: 'it returns false'. Refute it at one input. -/
def decoderKeysWrong : ChangeSpec := { name := "decoderKeys", fn := fun _ => fun
  | [d1, d2, d3] => { results := [.lit (.bool false)], args := [d1, d2, d3] }
  | _ => none }
def DecoderKeysWrongFalsely : Prop := decoderKeysRow.holds Tryz.pinned (OpenSpec.ofChange decoderKeysWrong)

/-- 'kinoralaw13.DecoderAny': WHATEVER THE INPUT: true; the input reads as it did. -/
def decoderAnySpec : ChangeSpec := { name := "decoderAny", fn := fun _ => fun
  | [d1, d2, d3] => { results := [.lit (.bool true)], args := [d1, d2, d3] }
  | _ => none }
def decoderAnyRow : OpenClaim := { program := "yteppnjgfebcmjaagreat", sum := "8d53f95005b06992463979ea83cddba7bdf5e062b8c0603976bdc4c1c786582d", func := "kinora/kinoralaw13.DecoderAny", spec := "decoderAny", unfollowed := true, recurses := true, apart := false }
def DecoderAnySaid : Prop := decoderAnyRow.holds Tryz.pinned (OpenSpec.ofChange decoderAnySpec)

/-- ITS FALSE NEIGHBOUR: 'it returns false'. Refute it at one input. -/
def decoderAnyWrong : ChangeSpec := { name := "decoderAny", fn := fun _ => fun
  | [d1, d2, d3] => { results := [.lit (.bool false)], args := [d1, d2, d3] }
  | _ => none }
def DecoderAnyWrongFalsely : Prop := decoderAnyRow.holds Tryz.pinned (OpenSpec.ofChange decoderAnyWrong)

/- THE SECOND FORM. 'bulk': how many values and letters a reading holds, each counted each time it is reached (what is shared counts as often as it is met; a slice's spare places count too). A statement '..UptoSaid' is the law's where the arguments, and the package variables that the reading takes, are together of bulk at most 1048576: NARROWER than '..Said'. Prove '..Said' where nothing that the law and all that it calls make is longer than what came in: it says more and counts as full. Else prove '..UptoSaid'. A law counts once. -/
mutual
def uptoBulk {H : Type} : DataW H → Nat
  | .lit (.string bytes) => bytes.length + 1
  | .lit _ => 1
  | .nil => 1
  | .ptr d => uptoBulk d + 1
  | .slice elems spare => uptoBulkAll elems + uptoBulkAll spare + 1
  | .agg parts => uptoBulkAll parts + 1
  | .iface _ d => uptoBulk d + 1
  | .map entries => uptoBulkEntries entries + 1
  | .held _ => 1
def uptoBulkAll {H : Type} : List (DataW H) → Nat
  | [] => 0
  | d :: r => uptoBulk d + uptoBulkAll r
def uptoBulkEntries {H : Type} : List (Lit × DataW H) → Nat
  | [] => 0
  | x :: r => uptoBulkEntry x + uptoBulkEntries r
def uptoBulkEntry {H : Type} : Lit × DataW H → Nat
  | (.string bytes, d) => bytes.length + uptoBulk d + 1
  | (_, d) => uptoBulk d + 1
 end
def uptoSmall : (H : Type) → List (DataW H) → Bool := fun _ ds => decide (uptoBulkAll ds ≤ 1048576)
def OpenSpec.upto (s : _root_.Go.ChangeSpec) : _root_.Go.OpenSpec := { _root_.Go.OpenSpec.ofChange s with cond := some uptoSmall }

/-- 'kinoralaw13.DecoderFrames', WHERE WHAT IT READS IS OF BULK AT MOST 1048576: true; the input reads as it did. -/
def decoderFramesUptoRow : OpenClaim := { program := "yteppnjgfebcmjaagreat", sum := "8d53f95005b06992463979ea83cddba7bdf5e062b8c0603976bdc4c1c786582d", func := "kinora/kinoralaw13.DecoderFrames", spec := "decoderFrames", unfollowed := true, recurses := true, apart := false, narrowed := true }
def DecoderFramesUptoSaid : Prop := decoderFramesUptoRow.holds Tryz.pinned (OpenSpec.upto decoderFramesSpec)

/-- 'kinoralaw13.DecoderBuilds', WHERE WHAT IT READS IS OF BULK AT MOST 1048576: true; the input reads as it did. -/
def decoderBuildsUptoRow : OpenClaim := { program := "yteppnjgfebcmjaagreat", sum := "8d53f95005b06992463979ea83cddba7bdf5e062b8c0603976bdc4c1c786582d", func := "kinora/kinoralaw13.DecoderBuilds", spec := "decoderBuilds", unfollowed := true, recurses := true, apart := false, narrowed := true }
def DecoderBuildsUptoSaid : Prop := decoderBuildsUptoRow.holds Tryz.pinned (OpenSpec.upto decoderBuildsSpec)

/-- 'kinoralaw13.DecoderNil', WHERE WHAT IT READS IS OF BULK AT MOST 1048576: true; the input reads as it did. -/
def decoderNilUptoRow : OpenClaim := { program := "yteppnjgfebcmjaagreat", sum := "8d53f95005b06992463979ea83cddba7bdf5e062b8c0603976bdc4c1c786582d", func := "kinora/kinoralaw13.DecoderNil", spec := "decoderNil", unfollowed := true, recurses := true, apart := false, narrowed := true }
def DecoderNilUptoSaid : Prop := decoderNilUptoRow.holds Tryz.pinned (OpenSpec.upto decoderNilSpec)

/-- 'kinoralaw13.DecoderKeys', WHERE WHAT IT READS IS OF BULK AT MOST 1048576: true; the input reads as it did. -/
def decoderKeysUptoRow : OpenClaim := { program := "yteppnjgfebcmjaagreat", sum := "8d53f95005b06992463979ea83cddba7bdf5e062b8c0603976bdc4c1c786582d", func := "kinora/kinoralaw13.DecoderKeys", spec := "decoderKeys", unfollowed := true, recurses := true, apart := false, narrowed := true }
def DecoderKeysUptoSaid : Prop := decoderKeysUptoRow.holds Tryz.pinned (OpenSpec.upto decoderKeysSpec)

/-- 'kinoralaw13.DecoderAny', WHERE WHAT IT READS IS OF BULK AT MOST 1048576: true; the input reads as it did. -/
def decoderAnyUptoRow : OpenClaim := { program := "yteppnjgfebcmjaagreat", sum := "8d53f95005b06992463979ea83cddba7bdf5e062b8c0603976bdc4c1c786582d", func := "kinora/kinoralaw13.DecoderAny", spec := "decoderAny", unfollowed := true, recurses := true, apart := false, narrowed := true }
def DecoderAnyUptoSaid : Prop := decoderAnyUptoRow.holds Tryz.pinned (OpenSpec.upto decoderAnySpec)

end Rows
end Go.Proofs.YteppnjgfebcmjaaGreat
