/-
  Arguments opened: bytes with their room; a Fate.
-/
import Derived.Test.YtblllengohabjaaNetOpen
namespace Go.Proofs.Ytblllengohabjaa
open Go.RowKit Go.ChangeShapes Go.WideShapes Go.ChangeAt Go.Joins

section
variable {H : Type} {enc : TypeId × Value → H} {w : World} {base : Nat} {held : Bool}
theorem bytes_cap {fuel : Nat} {A : Option Addr} {n c : Nat} {x : DataW H × List MemPlace} (h : DataW.trod enc Try.prog w base (fun _ => true) held fuel 29 [.slice A n c] = some x) : n ≤ c := by
  rcases open_ints Try.underlying29 Try.underlying5 (by kernel_rfl) h with ⟨hcs, _⟩ | ⟨a, n', c', zs, hcs, _, hl, _⟩
  · injection hcs with hcs
    injection hcs with _ e2 e3
    omega
  · injection hcs with hcs
    injection hcs with _ e2 e3
    omega
theorem fate_form {fuel : Nat} {c3 c4 c5 : Value} {x : DataW H × List MemPlace} (h : DataW.trod enc Try.prog w base (fun _ => true) held fuel 31 [c3, c4, c5] = some x) :
    ∃ fk fd fn : Int, c3 = .int .i64 fk ∧ c4 = .int .i64 fd ∧ c5 = .int .i64 fn ∧ (-9223372036854775808 ≤ fn ∧ fn ≤ 9223372036854775807) := by
  obtain ⟨ys, m', _, _, _, hlen', hg⟩ := DataW.trod_struct Try.underlying31 h
  match ys, hlen' with
  | [z0, z1, z2], _ =>
    have g0 : DataW.trod enc Try.prog w base (fun _ => true) held m' 3 [c3] = some z0 := hg 0 _ rfl
    have g1 : DataW.trod enc Try.prog w base (fun _ => true) held m' 3 [c4] = some z1 := hg 1 _ rfl
    have g2 : DataW.trod enc Try.prog w base (fun _ => true) held m' 3 [c5] = some z2 := hg 2 _ rfl
    obtain ⟨fk, a3, _, _⟩ := DataW.trod_int Try.underlying3 g0
    obtain ⟨fd, a4, _, _⟩ := DataW.trod_int Try.underlying3 g1
    obtain ⟨fn, a5, _, wn⟩ := DataW.trod_int Try.underlying3 g2
    simp only [List.cons.injEq, and_true] at a3 a4 a5
    exact ⟨fk, fd, fn, a3, a4, a5, bounds_i64 wn⟩
end
theorem cellsFate : Try.prog.cellsOf 31 = 3 := by kernel_rfl
theorem arr3 {α : Type} {cs : Array α} (h : cs.size = 3) : ∃ c0 c1 c2, cs = #[c0, c1, c2] := by
  obtain ⟨l⟩ := cs
  match l, h with
  | [c0, c1, c2], _ => exact ⟨c0, c1, c2, rfl⟩
end Go.Proofs.Ytblllengohabjaa
