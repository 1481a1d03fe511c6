/-
  No cell of these rows narrows 'for every input' (looked for: loops, veiled, ifaces, maps, wideKeys, modest, calm, conditions, laid).
  DERIVED. THE GIVEN ROWS OF THIS SEAT. 5 by the template 'for every input the law returns true; each argument reads behind the call as it read before'; 0 by the template 'total and deterministic' (their statements: YtblllengohabjaaTotals.lean).
  GIVEN WITH THE SEED: the statements are not yours to turn. If you find one false, say at which input.
  Laid BY PROGRAM, IN A SANDBOX (cutbox-rows.mjs): the forced cells as the released guide's own fill.sh prints them over the translation 682c9bb437f14a83… (all of the seat's roots in one cut). By AI agents, Wed Nov 11 2026. No macro, syntax, notation, axiom, sorry.
-/
import Derived.Test.YtblllengohabjaaChecked
import GoSem.Claim
import GoSem.ClaimJoined
import GoSem.ClaimMapViews
import Derived.JoinedTies
import Derived.KernelRfl
namespace Go.Proofs.Ytblllengohabjaa
/- THE CELL 'sum', in the pinned program and in every row, IS THE sha256 OF THE DUMP (.gsa) THAT YtblllengohabjaaProg.lean LOADS. Nothing in Lean hashes anything: it is a label: what it is worth is what the hold of that sum in a sandbox is worth. -/
noncomputable def Try.pinned : Pinned := { name := "ytblllengohabjaa", sum := "682c9bb437f14a838c1b8b8d3de6a64a5855661bbeac53a2884970d4db377365", checked := Try.checked }
namespace Rows
def none {H : Type} : Left H := { results := [], args := [] }

/-- 'kinoralaw21.NetworkPlays': WHATEVER THE INPUT: true; the input reads as it did. -/
def networkPlaysSpec : ChangeSpec := { name := "networkPlays", fn := fun _ => fun
  | [d] => { results := [.lit (.bool true)], args := [d] }
  | _ => none }
def networkPlaysRow : OpenClaim := { program := "ytblllengohabjaa", sum := "682c9bb437f14a838c1b8b8d3de6a64a5855661bbeac53a2884970d4db377365", func := "kinora/kinoralaw21.NetworkPlays", spec := "networkPlays", unfollowed := true, recurses := true, apart := false }
def NetworkPlaysSaid : Prop := networkPlaysRow.holds Try.pinned (OpenSpec.ofChange networkPlaysSpec)

/-- ITS FALSE NEIGHBOUR: 'it returns false'. Refute it at one input. -/
def networkPlaysWrong : ChangeSpec := { name := "networkPlays", fn := fun _ => fun
  | [d] => { results := [.lit (.bool false)], args := [d] }
  | _ => none }
def NetworkPlaysWrongFalsely : Prop := networkPlaysRow.holds Try.pinned (OpenSpec.ofChange networkPlaysWrong)

/-- 'kinoralaw21.NetworkOnce': WHATEVER THE INPUT: true; the input reads as it did. -/
def networkOnceSpec : ChangeSpec := { name := "networkOnce", fn := fun _ => fun
  | [d] => { results := [.lit (.bool true)], args := [d] }
  | _ => none }
def networkOnceRow : OpenClaim := { program := "ytblllengohabjaa", sum := "682c9bb437f14a838c1b8b8d3de6a64a5855661bbeac53a2884970d4db377365", func := "kinora/kinoralaw21.NetworkOnce", spec := "networkOnce", unfollowed := true, recurses := true, apart := false }
def NetworkOnceSaid : Prop := networkOnceRow.holds Try.pinned (OpenSpec.ofChange networkOnceSpec)

/-- ITS FALSE NEIGHBOUR: 'it returns false'. Refute it at one input. -/
def networkOnceWrong : ChangeSpec := { name := "networkOnce", fn := fun _ => fun
  | [d] => { results := [.lit (.bool false)], args := [d] }
  | _ => none }
def NetworkOnceWrongFalsely : Prop := networkOnceRow.holds Try.pinned (OpenSpec.ofChange networkOnceWrong)

/-- 'kinoralaw21.NetworkBends': WHATEVER THE INPUT: true; the input reads as it did. -/
def networkBendsSpec : ChangeSpec := { name := "networkBends", fn := fun _ => fun
  | [d1, d2] => { results := [.lit (.bool true)], args := [d1, d2] }
  | _ => none }
def networkBendsRow : OpenClaim := { program := "ytblllengohabjaa", sum := "682c9bb437f14a838c1b8b8d3de6a64a5855661bbeac53a2884970d4db377365", func := "kinora/kinoralaw21.NetworkBends", spec := "networkBends", unfollowed := true, recurses := true, apart := false }
def NetworkBendsSaid : Prop := networkBendsRow.holds Try.pinned (OpenSpec.ofChange networkBendsSpec)

/-- ITS FALSE NEIGHBOUR: 'it returns false'. Refute it at one input. -/
def networkBendsWrong : ChangeSpec := { name := "networkBends", fn := fun _ => fun
  | [d1, d2] => { results := [.lit (.bool false)], args := [d1, d2] }
  | _ => none }
def NetworkBendsWrongFalsely : Prop := networkBendsRow.holds Try.pinned (OpenSpec.ofChange networkBendsWrong)

/-- 'kinoralaw21.NetworkFull': WHATEVER THE INPUT: true; the input reads as it did. -/
def networkFullSpec : ChangeSpec := { name := "networkFull", fn := fun _ => fun
  | [d1, d2] => { results := [.lit (.bool true)], args := [d1, d2] }
  | _ => none }
def networkFullRow : OpenClaim := { program := "ytblllengohabjaa", sum := "682c9bb437f14a838c1b8b8d3de6a64a5855661bbeac53a2884970d4db377365", func := "kinora/kinoralaw21.NetworkFull", spec := "networkFull", unfollowed := true, recurses := true, apart := false }
def NetworkFullSaid : Prop := networkFullRow.holds Try.pinned (OpenSpec.ofChange networkFullSpec)

/-- ITS FALSE NEIGHBOUR: 'it returns false'. Refute it at one input. -/
def networkFullWrong : ChangeSpec := { name := "networkFull", fn := fun _ => fun
  | [d1, d2] => { results := [.lit (.bool false)], args := [d1, d2] }
  | _ => none }
def NetworkFullWrongFalsely : Prop := networkFullRow.holds Try.pinned (OpenSpec.ofChange networkFullWrong)

/-- 'kinoralaw21.NetworkNil': WHATEVER THE INPUT: true; the input reads as it did. -/
def networkNilSpec : ChangeSpec := { name := "networkNil", fn := fun _ => fun
  | [d] => { results := [.lit (.bool true)], args := [d] }
  | _ => none }
def networkNilRow : OpenClaim := { program := "ytblllengohabjaa", sum := "682c9bb437f14a838c1b8b8d3de6a64a5855661bbeac53a2884970d4db377365", func := "kinora/kinoralaw21.NetworkNil", spec := "networkNil", unfollowed := true, recurses := true, apart := false }
def NetworkNilSaid : Prop := networkNilRow.holds Try.pinned (OpenSpec.ofChange networkNilSpec)

/-- ITS FALSE NEIGHBOUR: 'it returns false'. Refute it at one input. -/
def networkNilWrong : ChangeSpec := { name := "networkNil", fn := fun _ => fun
  | [d] => { results := [.lit (.bool false)], args := [d] }
  | _ => none }
def NetworkNilWrongFalsely : Prop := networkNilRow.holds Try.pinned (OpenSpec.ofChange networkNilWrong)

/- THE SECOND FORM. 'bulk': how many values and letters a reading holds, each counted each time it is reached (what is shared counts as often as it is met; a slice's spare places count too). A statement '..UptoSaid' is the law's where the arguments, and the package variables that the reading takes, are together of bulk at most 1048576: NARROWER than '..Said'. Prove '..Said' where nothing that the law and all that it calls make is longer than what came in: it says more and counts as full. Else prove '..UptoSaid'. A law counts once. -/
mutual
def uptoBulk {H : Type} : DataW H → Nat
  | .lit (.string bytes) => bytes.length + 1
  | .lit _ => 1
  | .nil => 1
  | .ptr d => uptoBulk d + 1
  | .slice elems spare => uptoBulkAll elems + uptoBulkAll spare + 1
  | .agg parts => uptoBulkAll parts + 1
  | .iface _ d => uptoBulk d + 1
  | .map entries => uptoBulkEntries entries + 1
  | .held _ => 1
def uptoBulkAll {H : Type} : List (DataW H) → Nat
  | [] => 0
  | d :: r => uptoBulk d + uptoBulkAll r
def uptoBulkEntries {H : Type} : List (Lit × DataW H) → Nat
  | [] => 0
  | x :: r => uptoBulkEntry x + uptoBulkEntries r
def uptoBulkEntry {H : Type} : Lit × DataW H → Nat
  | (.string bytes, d) => bytes.length + uptoBulk d + 1
  | (_, d) => uptoBulk d + 1
 end
def uptoSmall : (H : Type) → List (DataW H) → Bool := fun _ ds => decide (uptoBulkAll ds ≤ 1048576)
def OpenSpec.upto (s : _root_.Go.ChangeSpec) : _root_.Go.OpenSpec := { _root_.Go.OpenSpec.ofChange s with cond := some uptoSmall }

/-- 'kinoralaw21.NetworkPlays', WHERE WHAT IT READS IS OF BULK AT MOST 1048576: true; the input reads as it did. -/
def networkPlaysUptoRow : OpenClaim := { program := "ytblllengohabjaa", sum := "682c9bb437f14a838c1b8b8d3de6a64a5855661bbeac53a2884970d4db377365", func := "kinora/kinoralaw21.NetworkPlays", spec := "networkPlays", unfollowed := true, recurses := true, apart := false, narrowed := true }
def NetworkPlaysUptoSaid : Prop := networkPlaysUptoRow.holds Try.pinned (OpenSpec.upto networkPlaysSpec)

/-- 'kinoralaw21.NetworkOnce', WHERE WHAT IT READS IS OF BULK AT MOST 1048576: true; the input reads as it did. -/
def networkOnceUptoRow : OpenClaim := { program := "ytblllengohabjaa", sum := "682c9bb437f14a838c1b8b8d3de6a64a5855661bbeac53a2884970d4db377365", func := "kinora/kinoralaw21.NetworkOnce", spec := "networkOnce", unfollowed := true, recurses := true, apart := false, narrowed := true }
def NetworkOnceUptoSaid : Prop := networkOnceUptoRow.holds Try.pinned (OpenSpec.upto networkOnceSpec)

/-- 'kinoralaw21.NetworkBends', WHERE WHAT IT READS IS OF BULK AT MOST 1048576: true; the input reads as it did. -/
def networkBendsUptoRow : OpenClaim := { program := "ytblllengohabjaa", sum := "682c9bb437f14a838c1b8b8d3de6a64a5855661bbeac53a2884970d4db377365", func := "kinora/kinoralaw21.NetworkBends", spec := "networkBends", unfollowed := true, recurses := true, apart := false, narrowed := true }
def NetworkBendsUptoSaid : Prop := networkBendsUptoRow.holds Try.pinned (OpenSpec.upto networkBendsSpec)

/-- 'kinoralaw21.NetworkFull', WHERE WHAT IT READS IS OF BULK AT MOST 1048576: true; the input reads as it did. -/
def networkFullUptoRow : OpenClaim := { program := "ytblllengohabjaa", sum := "682c9bb437f14a838c1b8b8d3de6a64a5855661bbeac53a2884970d4db377365", func := "kinora/kinoralaw21.NetworkFull", spec := "networkFull", unfollowed := true, recurses := true, apart := false, narrowed := true }
def NetworkFullUptoSaid : Prop := networkFullUptoRow.holds Try.pinned (OpenSpec.upto networkFullSpec)

/-- 'kinoralaw21.NetworkNil', WHERE WHAT IT READS IS OF BULK AT MOST 1048576: true; the input reads as it did. -/
def networkNilUptoRow : OpenClaim := { program := "ytblllengohabjaa", sum := "682c9bb437f14a838c1b8b8d3de6a64a5855661bbeac53a2884970d4db377365", func := "kinora/kinoralaw21.NetworkNil", spec := "networkNil", unfollowed := true, recurses := true, apart := false, narrowed := true }
def NetworkNilUptoSaid : Prop := networkNilUptoRow.holds Try.pinned (OpenSpec.upto networkNilSpec)

end Rows
end Go.Proofs.Ytblllengohabjaa
