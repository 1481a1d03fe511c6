/-
  What the library's functions read of its variables, out of the row's list; one start that fits.
-/
import Derived.Test.YtkobngipbhjfjaaDoorMfEnv
import Derived.Test.YtkobngipbhjfjaaDoorRows
import Derived.Stop.LaidErr
import Derived.Lib.LaidIn
import Derived.Lib.LaidU8
import Derived.Deep.DeepWitnessRowRef
import Derived.Deep.DeepHandedRow
import Derived.MakeChecks
import Derived.ProofKit
import Derived.OpenShut
import Derived.ChangeOld
import Derived.JoinedCond
import Derived.Lib.SmallJoins
namespace Go.Proofs.YtkobngipbhjfjaaDoor
open Go Go.RowKit Go.Shelf Go.ChangeShapes Go.WideShapes Go.ChangeAt Go.Joins

def laidAll : List (String × DataW Unit) := Rows.manifestBackRow.laid
theorem laid_plain {W : World} (h : laidMetH Tryd.prog laidAll W) : laidMet Tryd.prog laidAll W := by
  rw [Go.MakeChecks.laidMetH_plain Tryd.prog laidAll W (by kernel_rfl)] at h
  exact h
theorem starE : "*" ++ "errors.errorString" = "*errors.errorString" := by decide
theorem rowE (u : TypeId) (h : Tryd.prog.typeName? 3 u = some "*errors.errorString") : u = 128 :=
  typeName_ptr_named (nm := "errors.errorString") (by rw [starE]; kernel_rfl) (by kernel_rfl) (by decide) u (by rw [starE]; exact h)
theorem env_of_laid {W : World} (h : laidMet Tryd.prog laidAll W) (hs : W.ShapedOpen Tryd.prog) : Env W := by
  have h0 : laidMet Tryd.prog ([("math/bits.deBruijn32tab", Rows.laid_math_bits_deBruijn32tab), ("math/bits.deBruijn64tab", Rows.laid_math_bits_deBruijn64tab), ("internal/strconv.uint64pow10", Rows.laid_internal_strconv_uint64pow10), ("unicode/utf8.acceptRanges", Rows.laid_unicode_utf8_acceptRanges), ("strconv.ErrRange", Rows.laid_strconv_ErrRange), ("strconv.ErrSyntax", Rows.laid_strconv_ErrSyntax), ("unicode/utf8.first", Rows.laid_unicode_utf8_first)]) W := h
  have h2 := laidMet.tail (laidMet.tail h0)
  have h4 := laidMet.tail (laidMet.tail h2)
  have h5 := laidMet.tail h4
  obtain ⟨m, hm⟩ := Tryd.laysSplit.s1_3 W hs
  refine ⟨?_, ?_, ?_, m, hm, World.block_lt_of_cell? W _ hm⟩
  · have e : (Rows.laid_internal_strconv_uint64pow10 : DataW Unit) = Lib.tabData .u64 Lib.pow10Tab := by kernel_rfl
    rw [e] at h2
    exact Lib.tabIs_of_head (P := Tryd.prog) (g := 0) (n := 20) (by kernel_rfl) (by kernel_rfl) Tryd.underlying109 Tryd.underlying95 (by kernel_rfl) (by kernel_rfl) h2
  · obtain ⟨a, _, hv, _⟩ := laid_sentinel (P := Tryd.prog) (g := 4) h5 (by kernel_rfl) (by kernel_rfl) Tryd.underlying75 rowE Tryd.underlying128 Tryd.underlying130 rfl rfl Tryd.underlying9 (by kernel_rfl) (by kernel_rfl)
    exact ⟨_, _, hv⟩
  · obtain ⟨a, _, hv, _⟩ := laid_sentinel (P := Tryd.prog) (g := 5) h4 (by kernel_rfl) (by kernel_rfl) Tryd.underlying75 rowE Tryd.underlying128 Tryd.underlying130 rfl rfl Tryd.underlying9 (by kernel_rfl) (by kernel_rfl)
    exact ⟨_, _, hv⟩

/-! ### One start that fits -/
def litsOf : DataW Unit → List Value
  | .agg xs => xs.filterMap fun
    | .lit (.int k z) => some (.int k z)
    | _ => none
  | _ => []
/-- The settled world with two blocks more, the two errors' texts; the variables hold what their initialisers lay. -/
noncomputable def laidWorld (os : Os) : World :=
  let N := (World.settled Tryd.prog os).heap.size
  let w0 := World.holding Tryd.prog os ⟨#[.cells #[.string (strOf [105, 110, 118, 97, 108, 105, 100, 32, 115, 121, 110, 116, 97, 120])] 130, .cells #[.string (strOf [118, 97, 108, 117, 101, 32, 111, 117, 116, 32, 111, 102, 32, 114, 97, 110, 103, 101])] 130], #[], []⟩
  let put (h : Array Obj) (g : Nat) (cs : Array Value) : Array Obj := h.modify g fun
    | .cells _ t frozen => .cells cs t frozen
    | o => o
  let h1 := put w0.heap 0 (litsOf Rows.laid_internal_strconv_uint64pow10).toArray
  let h2 := put h1 1 (litsOf Rows.laid_unicode_utf8_first).toArray
  let h3 := put h2 2 ((List.range 16).flatMap fun i => [Value.int .u8 (Lib.accLo i), Value.int .u8 (Lib.accHi i)]).toArray
  let h4 := put h3 4 #[.iface 128 (.pointer (some ⟨N, 0, none⟩))]
  let h5 := put h4 5 #[.iface 128 (.pointer (some ⟨N + 1, 0, none⟩))]
  let h6 := put h5 6 (litsOf Rows.laid_math_bits_deBruijn32tab).toArray
  let h7 := put h6 7 (litsOf Rows.laid_math_bits_deBruijn64tab).toArray
  { w0 with heap := h7 }
noncomputable abbrev N0 : Nat := (World.settled Tryd.prog default).heap.size
theorem piece1 (os : Os) (args : Array Value) : LaidIn Tryd.prog ((laidWorld os).forCall (fun _ _ => 0) ⟨#[], args, []⟩).memory [("math/bits.deBruijn32tab", Rows.laid_math_bits_deBruijn32tab), ("math/bits.deBruijn64tab", Rows.laid_math_bits_deBruijn64tab), ("internal/strconv.uint64pow10", Rows.laid_internal_strconv_uint64pow10), ("unicode/utf8.acceptRanges", Rows.laid_unicode_utf8_acceptRanges)] [6, 7, 0, 2] :=
  LaidIn.of_run [6, 7, 0, 2] 8 (by kernel_rfl) (by kernel_rfl) (by kernel_rfl) (by kernel_rfl)
theorem piece2 (os : Os) (args : Array Value) : LaidIn Tryd.prog ((laidWorld os).forCall (fun _ _ => 0) ⟨#[], args, []⟩).memory [("strconv.ErrRange", Rows.laid_strconv_ErrRange), ("strconv.ErrSyntax", Rows.laid_strconv_ErrSyntax)] [4, 5, N0, N0 + 1] :=
  LaidIn.of_run [4, 5, N0, N0 + 1] 8 (by kernel_rfl) (by kernel_rfl) (by kernel_rfl) (by kernel_rfl)
theorem piece3 (os : Os) (args : Array Value) : LaidIn Tryd.prog ((laidWorld os).forCall (fun _ _ => 0) ⟨#[], args, []⟩).memory [("unicode/utf8.first", Rows.laid_unicode_utf8_first)] [1] :=
  LaidIn.of_run [1] 8 (by kernel_rfl) (by kernel_rfl) (by kernel_rfl) (by kernel_rfl)
theorem laid_met (os : Os) (args : Array Value) : laidMet Tryd.prog laidAll ((laidWorld os).forCall (fun _ _ => 0) ⟨#[], args, []⟩).memory :=
  (((piece1 os args).append (piece2 os args) (by kernel_rfl)).append (piece3 os args) (by kernel_rfl)).met
end Go.Proofs.YtkobngipbhjfjaaDoor
