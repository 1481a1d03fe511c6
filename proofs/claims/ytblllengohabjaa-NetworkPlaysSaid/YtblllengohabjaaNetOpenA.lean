/-
  Arguments opened: a slice of acts.
-/
import Derived.Test.YtblllengohabjaaNetOpen
import Derived.Test.YtblllengohabjaaNetPlaysC
import Derived.Deep.Slices
namespace Go.Proofs.Ytblllengohabjaa
open Go.RowKit Go.ChangeShapes Go.WideShapes Go.ChangeAt Go.Joins Go.Deep

section
variable {H : Type} {enc : TypeId × Value → H} {w : World} {base : Nat} {held : Bool}
theorem cellsAct6 : Try.prog.cellsOf 33 = 6 := by kernel_rfl

theorem open_acts {fuel : Nat} {a0 : Option Addr} {len0 cap0 : Nat} {x : DataW H × List MemPlace} (h : DataW.trod enc Try.prog w base (fun _ => true) held fuel 22 [.slice a0 len0 cap0] = some x) : len0 ≤ maxLen ∧ ∃ acts, Acts w a0 len0 acts := by
  rcases open_slice Try.underlying22 h with ⟨hcs, _⟩ | ⟨a, len, cap, m, n, D, Pl, hcs, _, hl, hm, hmm, _, hall⟩
  · injection hcs with hcs
    injection hcs with e1 e2 e3
    subst e1 e2
    exact ⟨by decide, fun _ => ⟨0, 0, 0, 0, 0, none, 0, 0, []⟩, fun h => absurd h (by omega)⟩
  · injection hcs with hcs
    injection hcs with e1 e2 e3
    subst e1 e2 e3
    rw [if_pos rfl] at hmm
    subst hmm
    refine ⟨by omega, ?_⟩
    have each : ∀ i, i < len0 → ∃ q : ActV, (w.cell? (a.add (i * 6)) = some (.int .i64 q.kind) ∧ w.cell? (a.add (i * 6 + 1)) = some (.int .i64 q.side) ∧ w.cell? (a.add (i * 6 + 2)) = some (.slice q.A q.n q.c) ∧
        w.cell? (a.add (i * 6 + 3)) = some (.int .i64 q.fk) ∧ w.cell? (a.add (i * 6 + 4)) = some (.int .i64 q.fd) ∧ w.cell? (a.add (i * 6 + 5)) = some (.int .i64 q.fn)) ∧ BytesIn w q.A q.n q.c q.l ∧ q.n ≤ maxLen ∧ (-9223372036854775808 ≤ q.fn ∧ q.fn ≤ 9223372036854775807) := by
      intro i hi
      obtain ⟨cs', hc, ht⟩ := hall i (by omega)
      rw [cellsAct6] at hc
      obtain ⟨_, hcl, hat⟩ := World.cells?_some hc
      match cs', hcl with
      | [c0, c1, c2, c3, c4, c5], _ =>
        obtain ⟨kind, side, fk, fd, fn, A, n, c, l, rfl, rfl, rfl, rfl, rfl, rfl, h1, h2, h3, _⟩ := act_form ht
        have k0 := hat 0 (by omega)
        have k1 := hat 1 (by omega)
        have k2 := hat 2 (by omega)
        have k3 := hat 3 (by omega)
        have k4 := hat 4 (by omega)
        have k5 := hat 5 (by omega)
        rw [add_add] at k0 k1 k2 k3 k4 k5
        exact ⟨⟨kind, side, fk, fd, fn, A, n, c, l⟩, ⟨k0, k1, k2, k3, k4, k5⟩, h2, h1, h3⟩
    refine ⟨fun i => if hi : i < len0 then (each i hi).choose else ⟨0, 0, 0, 0, 0, none, 0, 0, []⟩, fun h0 => ?_⟩
    obtain ⟨b, off, spot⟩ := a
    have hc0 := (each 0 h0).choose_spec.1.1
    have hspot : spot = none := by simpa [Addr.add] using World.cell?_spot hc0
    subst hspot
    refine ⟨b, off, rfl, fun i hi => ?_⟩
    have hadd : ∀ j, (⟨b, off, none⟩ : Addr).add j = ⟨b, off + j, none⟩ := fun j => by unfold Addr.add; split <;> simp_all
    have := (each i hi).choose_spec
    simp only [dif_pos hi]
    generalize (each i hi).choose = q at *
    simp only [hadd] at this
    obtain ⟨⟨k0, k1, k2, k3, k4, k5⟩, r⟩ := this
    exact ⟨⟨k0, by rw [Nat.add_assoc]; exact k1, by rw [Nat.add_assoc]; exact k2, by rw [Nat.add_assoc]; exact k3, by rw [Nat.add_assoc]; exact k4, by rw [Nat.add_assoc]; exact k5⟩, r⟩
end
end Go.Proofs.Ytblllengohabjaa
