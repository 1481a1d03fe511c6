/-
  An argument opened: ints.
-/
import Derived.Test.YtkobngipbhjfjaaDoorInts
import Derived.ProofKit
import Derived.OpenShut
import Derived.Lib.SmallJoins
namespace Go.Proofs.YtkobngipbhjfjaaDoor
open Go.RowKit Go.ChangeShapes Go.WideShapes Go.ChangeAt Go.Joins

section
variable {H : Type} {enc : TypeId × Value → H} {w : World} {base : Nat} {held : Bool}
/-- A []int cell that came in. -/
theorem ints_form {fuel : Nat} {v : Value} {x : DataW H × List MemPlace} (h : DataW.trod enc Tryd.prog w base (fun _ => true) held fuel 42 [v] = some x) :
    ∃ (A : Option Addr) (n c : Nat) (l : List Int), v = .slice A n c ∧ n ≤ maxLen ∧ IntsIn w A n c l ∧ (∀ x ∈ l, -9223372036854775808 ≤ x ∧ x ≤ 9223372036854775807) := by
  rcases open_ints Tryd.underlying42 Tryd.underlying3 (by kernel_rfl) h with ⟨hcs, _⟩ | ⟨a, n, c, zs, hcs, _, hl, hm, hz, _, hcell, hwz⟩
  · injection hcs with hcs
    exact ⟨none, 0, 0, [], hcs, by decide, ⟨rfl, fun _ => rfl, Src.nil, fun h0 => absurd h0 (by omega)⟩, fun _ h => by cases h⟩
  · injection hcs with hcs
    have hz' : zs.length = c := by simpa using hz
    refine ⟨some a, n, c, zs.take n, hcs, by omega, ⟨?_, (fun h => by cases h), ?_, fun h0 ad e => ?_⟩, fun x hx => bounds_i64 (hwz x (List.mem_of_mem_take hx))⟩
    · simp; omega
    · refine ⟨by simp [i64s]; omega, (fun h => by cases h), fun ad e j u hu => ?_⟩
      injection e with e
      subst e
      have hj : j < n := by
        have := (List.getElem?_eq_some_iff.1 hu).1
        simp [i64s] at this
        omega
      have := hcell j (by omega)
      rw [this, ← hu]
      simp [i64s, List.getD_eq_getElem?_getD, hj, show j < zs.length by omega]
    · injection e with e
      subst e
      have := World.block_lt_of_cell? w _ (hcell 0 (by omega))
      rwa [addr_block] at this
end
end Go.Proofs.YtkobngipbhjfjaaDoor
