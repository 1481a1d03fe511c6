/-
  Bytes, and ints, as arguments.
-/
import Derived.Test.YtnnpoodcdibpiaaGreatDoorBOrBase
namespace Go.Proofs.YtnnpoodcdibpiaaGreatDoor
open Go.RowKit Go.ChangeShapes Go.WideShapes Go.ChangeAt Go.Joins

section
variable {H : Type} {enc : TypeId × Value → H} {w : World} {base : Nat} {held : Bool}
set_option maxRecDepth 100000 in
theorem open_by {r : Reach} {b0 : Nat} {v : Value} {d : DataW H} {p : List MemPlace} (hv : Value.okWide Tryz.prog w r b0 22 v) (h : DataW.Trod enc Tryz.prog w base (fun _ => true) held 22 v d p) : ∃ A n c l, v = .slice A n c ∧ n ≤ 9223372036854775807 ∧ BytesIn w A n c l := by
  obtain ⟨a0, len0, cap0, rfl⟩ := okWide_slice Tryz.underlying22 hv
  obtain ⟨fuel, hf⟩ := h
  have hf' : DataW.trod enc Tryz.prog w base (fun _ => true) held fuel 22 [.slice a0 len0 cap0] = some (d, p) := by simpa [Value.cells] using hf
  obtain ⟨A, n, c, l, h1, h2, h3⟩ := bytes_form hf'
  exact ⟨A, n, c, l, h1, by unfold maxLen at h2; exact h2, h3⟩
set_option maxRecDepth 100000 in
theorem open_is {r : Reach} {b0 : Nat} {v : Value} {d : DataW H} {p : List MemPlace} (hv : Value.okWide Tryz.prog w r b0 23 v) (h : DataW.Trod enc Tryz.prog w base (fun _ => true) held 23 v d p) : ∃ A n c l, v = .slice A n c ∧ n ≤ 9223372036854775807 ∧ IntsIn w A n c l := by
  obtain ⟨a0, len0, cap0, rfl⟩ := okWide_slice Tryz.underlying23 hv
  obtain ⟨fuel, hf⟩ := h
  have hf' : DataW.trod enc Tryz.prog w base (fun _ => true) held fuel 23 [.slice a0 len0 cap0] = some (d, p) := by simpa [Value.cells] using hf
  obtain ⟨A, n, c, l, h1, h2, h3⟩ := ints_form hf'
  exact ⟨A, n, c, l, h1, by unfold maxLen at h2; exact h2, h3.1⟩
end
end Go.Proofs.YtnnpoodcdibpiaaGreatDoor
