/-
  No cell of these rows narrows 'for every input' (looked for: loops, veiled, ifaces, maps, wideKeys, modest, calm, conditions, laid).
  DERIVED. THE GIVEN ROWS OF THIS SEAT. 5 by the template 'for every input the law returns true; each argument reads behind the call as it read before'; 0 by the template 'total and deterministic' (their statements: YtaflmnnnmbklfaaTotals.lean).
  GIVEN WITH THE SEED: the statements are not yours to turn. If you find one false, say at which input.
  Laid BY PROGRAM, IN A SANDBOX (cutbox-rows.mjs): the forced cells as the released guide's own fill.sh prints them over the translation 4e7248e21b61cd29… (all of the seat's roots in one cut). By AI agents, Wed Nov 11 2026. No macro, syntax, notation, axiom, sorry.
-/
import Derived.Test.YtaflmnnnmbklfaaChecked
import GoSem.Claim
import GoSem.ClaimJoined
import GoSem.ClaimMapViews
import Derived.JoinedTies
import Derived.KernelRfl
namespace Go.Proofs.Ytaflmnnnmbklfaa
/- THE CELL 'sum', in the pinned program and in every row, IS THE sha256 OF THE DUMP (.gsa) THAT YtaflmnnnmbklfaaProg.lean LOADS. Nothing in Lean hashes anything: it is a label: what it is worth is what the hold of that sum in a sandbox is worth. -/
noncomputable def Try.pinned : Pinned := { name := "ytaflmnnnmbklfaa", sum := "4e7248e21b61cd293f7418410012fbee8a5a24e3c26417fd4283b437865cfdbe", checked := Try.checked }
namespace Rows
def none {H : Type} : Left H := { results := [], args := [] }

/-- 'kinoralaw22.PolicyRates': WHATEVER THE INPUT: true; the input reads as it did. -/
def policyRatesSpec : ChangeSpec := { name := "policyRates", fn := fun _ => fun
  | [d1, d2] => { results := [.lit (.bool true)], args := [d1, d2] }
  | _ => none }
def policyRatesRow : OpenClaim := { program := "ytaflmnnnmbklfaa", sum := "4e7248e21b61cd293f7418410012fbee8a5a24e3c26417fd4283b437865cfdbe", func := "kinora/kinoralaw22.PolicyRates", spec := "policyRates", apart := false }
def PolicyRatesSaid : Prop := policyRatesRow.holds Try.pinned (OpenSpec.ofChange policyRatesSpec)

/-- ITS FALSE NEIGHBOUR: 'it returns false'. Refute it at one input. -/
def policyRatesWrong : ChangeSpec := { name := "policyRates", fn := fun _ => fun
  | [d1, d2] => { results := [.lit (.bool false)], args := [d1, d2] }
  | _ => none }
def PolicyRatesWrongFalsely : Prop := policyRatesRow.holds Try.pinned (OpenSpec.ofChange policyRatesWrong)

/-- 'kinoralaw22.PolicyBetween': WHATEVER THE INPUT: true; the input reads as it did. -/
def policyBetweenSpec : ChangeSpec := { name := "policyBetween", fn := fun _ => fun
  | [d1, d2] => { results := [.lit (.bool true)], args := [d1, d2] }
  | _ => none }
def policyBetweenRow : OpenClaim := { program := "ytaflmnnnmbklfaa", sum := "4e7248e21b61cd293f7418410012fbee8a5a24e3c26417fd4283b437865cfdbe", func := "kinora/kinoralaw22.PolicyBetween", spec := "policyBetween", apart := false }
def PolicyBetweenSaid : Prop := policyBetweenRow.holds Try.pinned (OpenSpec.ofChange policyBetweenSpec)

/-- ITS FALSE NEIGHBOUR: 'it returns false'. Refute it at one input. -/
def policyBetweenWrong : ChangeSpec := { name := "policyBetween", fn := fun _ => fun
  | [d1, d2] => { results := [.lit (.bool false)], args := [d1, d2] }
  | _ => none }
def PolicyBetweenWrongFalsely : Prop := policyBetweenRow.holds Try.pinned (OpenSpec.ofChange policyBetweenWrong)

/-- 'kinoralaw22.PolicyScreens': WHATEVER THE INPUT: true; the input reads as it did. -/
def policyScreensSpec : ChangeSpec := { name := "policyScreens", fn := fun _ => fun
  | [d1, d2] => { results := [.lit (.bool true)], args := [d1, d2] }
  | _ => none }
def policyScreensRow : OpenClaim := { program := "ytaflmnnnmbklfaa", sum := "4e7248e21b61cd293f7418410012fbee8a5a24e3c26417fd4283b437865cfdbe", func := "kinora/kinoralaw22.PolicyScreens", spec := "policyScreens", apart := false }
def PolicyScreensSaid : Prop := policyScreensRow.holds Try.pinned (OpenSpec.ofChange policyScreensSpec)

/-- ITS FALSE NEIGHBOUR: 'it returns false'. Refute it at one input. -/
def policyScreensWrong : ChangeSpec := { name := "policyScreens", fn := fun _ => fun
  | [d1, d2] => { results := [.lit (.bool false)], args := [d1, d2] }
  | _ => none }
def PolicyScreensWrongFalsely : Prop := policyScreensRow.holds Try.pinned (OpenSpec.ofChange policyScreensWrong)

/-- 'kinoralaw22.PolicyStalls': WHATEVER THE INPUT: true; the input reads as it did. -/
def policyStallsSpec : ChangeSpec := { name := "policyStalls", fn := fun _ => fun
  | [d1, d2] => { results := [.lit (.bool true)], args := [d1, d2] }
  | _ => none }
def policyStallsRow : OpenClaim := { program := "ytaflmnnnmbklfaa", sum := "4e7248e21b61cd293f7418410012fbee8a5a24e3c26417fd4283b437865cfdbe", func := "kinora/kinoralaw22.PolicyStalls", spec := "policyStalls", apart := false }
def PolicyStallsSaid : Prop := policyStallsRow.holds Try.pinned (OpenSpec.ofChange policyStallsSpec)

/-- ITS FALSE NEIGHBOUR: 'it returns false'. Refute it at one input. -/
def policyStallsWrong : ChangeSpec := { name := "policyStalls", fn := fun _ => fun
  | [d1, d2] => { results := [.lit (.bool false)], args := [d1, d2] }
  | _ => none }
def PolicyStallsWrongFalsely : Prop := policyStallsRow.holds Try.pinned (OpenSpec.ofChange policyStallsWrong)

/-- 'kinoralaw22.PolicyNil': WHATEVER THE INPUT: true; the input reads as it did. -/
def policyNilSpec : ChangeSpec := { name := "policyNil", fn := fun _ => fun
  | [d1, d2] => { results := [.lit (.bool true)], args := [d1, d2] }
  | _ => none }
def policyNilRow : OpenClaim := { program := "ytaflmnnnmbklfaa", sum := "4e7248e21b61cd293f7418410012fbee8a5a24e3c26417fd4283b437865cfdbe", func := "kinora/kinoralaw22.PolicyNil", spec := "policyNil", apart := false }
def PolicyNilSaid : Prop := policyNilRow.holds Try.pinned (OpenSpec.ofChange policyNilSpec)

/-- ITS FALSE NEIGHBOUR: 'it returns false'. Refute it at one input. -/
def policyNilWrong : ChangeSpec := { name := "policyNil", fn := fun _ => fun
  | [d1, d2] => { results := [.lit (.bool false)], args := [d1, d2] }
  | _ => none }
def PolicyNilWrongFalsely : Prop := policyNilRow.holds Try.pinned (OpenSpec.ofChange policyNilWrong)

/- THE SECOND FORM. 'bulk': how many values and letters a reading holds, each counted each time it is reached (what is shared counts as often as it is met; a slice's spare places count too). A statement '..UptoSaid' is the law's where the arguments, and the package variables that the reading takes, are together of bulk at most 1048576: NARROWER than '..Said'. Prove '..Said' where nothing that the law and all that it calls make is longer than what came in: it says more and counts as full. Else prove '..UptoSaid'. A law counts once. -/
mutual
def uptoBulk {H : Type} : DataW H → Nat
  | .lit (.string bytes) => bytes.length + 1
  | .lit _ => 1
  | .nil => 1
  | .ptr d => uptoBulk d + 1
  | .slice elems spare => uptoBulkAll elems + uptoBulkAll spare + 1
  | .agg parts => uptoBulkAll parts + 1
  | .iface _ d => uptoBulk d + 1
  | .map entries => uptoBulkEntries entries + 1
  | .held _ => 1
def uptoBulkAll {H : Type} : List (DataW H) → Nat
  | [] => 0
  | d :: r => uptoBulk d + uptoBulkAll r
def uptoBulkEntries {H : Type} : List (Lit × DataW H) → Nat
  | [] => 0
  | x :: r => uptoBulkEntry x + uptoBulkEntries r
def uptoBulkEntry {H : Type} : Lit × DataW H → Nat
  | (.string bytes, d) => bytes.length + uptoBulk d + 1
  | (_, d) => uptoBulk d + 1
 end
def uptoSmall : (H : Type) → List (DataW H) → Bool := fun _ ds => decide (uptoBulkAll ds ≤ 1048576)
def OpenSpec.upto (s : _root_.Go.ChangeSpec) : _root_.Go.OpenSpec := { _root_.Go.OpenSpec.ofChange s with cond := some uptoSmall }

/-- 'kinoralaw22.PolicyRates', WHERE WHAT IT READS IS OF BULK AT MOST 1048576: true; the input reads as it did. -/
def policyRatesUptoRow : OpenClaim := { program := "ytaflmnnnmbklfaa", sum := "4e7248e21b61cd293f7418410012fbee8a5a24e3c26417fd4283b437865cfdbe", func := "kinora/kinoralaw22.PolicyRates", spec := "policyRates", apart := false, narrowed := true }
def PolicyRatesUptoSaid : Prop := policyRatesUptoRow.holds Try.pinned (OpenSpec.upto policyRatesSpec)

/-- 'kinoralaw22.PolicyBetween', WHERE WHAT IT READS IS OF BULK AT MOST 1048576: true; the input reads as it did. -/
def policyBetweenUptoRow : OpenClaim := { program := "ytaflmnnnmbklfaa", sum := "4e7248e21b61cd293f7418410012fbee8a5a24e3c26417fd4283b437865cfdbe", func := "kinora/kinoralaw22.PolicyBetween", spec := "policyBetween", apart := false, narrowed := true }
def PolicyBetweenUptoSaid : Prop := policyBetweenUptoRow.holds Try.pinned (OpenSpec.upto policyBetweenSpec)

/-- 'kinoralaw22.PolicyScreens', WHERE WHAT IT READS IS OF BULK AT MOST 1048576: true; the input reads as it did. -/
def policyScreensUptoRow : OpenClaim := { program := "ytaflmnnnmbklfaa", sum := "4e7248e21b61cd293f7418410012fbee8a5a24e3c26417fd4283b437865cfdbe", func := "kinora/kinoralaw22.PolicyScreens", spec := "policyScreens", apart := false, narrowed := true }
def PolicyScreensUptoSaid : Prop := policyScreensUptoRow.holds Try.pinned (OpenSpec.upto policyScreensSpec)

/-- 'kinoralaw22.PolicyStalls', WHERE WHAT IT READS IS OF BULK AT MOST 1048576: true; the input reads as it did. -/
def policyStallsUptoRow : OpenClaim := { program := "ytaflmnnnmbklfaa", sum := "4e7248e21b61cd293f7418410012fbee8a5a24e3c26417fd4283b437865cfdbe", func := "kinora/kinoralaw22.PolicyStalls", spec := "policyStalls", apart := false, narrowed := true }
def PolicyStallsUptoSaid : Prop := policyStallsUptoRow.holds Try.pinned (OpenSpec.upto policyStallsSpec)

/-- 'kinoralaw22.PolicyNil', WHERE WHAT IT READS IS OF BULK AT MOST 1048576: true; the input reads as it did. -/
def policyNilUptoRow : OpenClaim := { program := "ytaflmnnnmbklfaa", sum := "4e7248e21b61cd293f7418410012fbee8a5a24e3c26417fd4283b437865cfdbe", func := "kinora/kinoralaw22.PolicyNil", spec := "policyNil", apart := false, narrowed := true }
def PolicyNilUptoSaid : Prop := policyNilUptoRow.holds Try.pinned (OpenSpec.upto policyNilSpec)

end Rows
end Go.Proofs.Ytaflmnnnmbklfaa
