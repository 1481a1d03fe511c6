/-
  Arguments opened: a slice of pairs of ints.
-/
import Derived.Test.YtaflmnnnmbklfaaPolRates
import Derived.ProofKit
import Derived.OpenShut
import Derived.Deep.SlicePairs
namespace Go.Proofs.Ytaflmnnnmbklfaa
open Go.RowKit Go.ChangeShapes Go.WideShapes Go.ChangeAt Go.Deep

section
variable {H : Type} {enc : TypeId × Value → H} {P : Program} {w : World} {base : Nat} {held : Bool}

theorem open_pairslice {r : Reach} {b0 : Nat} {t e : TypeId} {f0 f1 : Field} {v : Value} {d : DataW H} {p : List MemPlace} (ht : P.underlying t = some (.slice e)) (he : P.underlying e = some (.struct #[f0, f1]))
    (ce : P.cellsOf e = 2) (o0 : f0.offset = 0) (o1 : f1.offset = 1) (c0 : P.cellsOf f0.type = 1) (c1 : P.cellsOf f1.type = 1) (t0 : P.underlying f0.type = some (.int .i64)) (t1 : P.underlying f1.type = some (.int .i64))
    (hv : Value.okWide P w r b0 t v) (h : DataW.Trod enc P w base (fun _ => true) held t v d p) :
    ∃ (A : Option Addr) (len cap : Nat) (l : List Dl), v = .slice A len cap ∧ Pairs w A len l ∧ len ≤ maxLen ∧ ∀ i, i < len → (-9223372036854775808 ≤ (dlAt l i).1 ∧ (dlAt l i).1 ≤ 9223372036854775807) ∧ (-9223372036854775808 ≤ (dlAt l i).2 ∧ (dlAt l i).2 ≤ 9223372036854775807) := by
  obtain ⟨a0, len0, cap0, rfl⟩ := okWide_slice ht hv
  obtain ⟨fuel, hf⟩ := h
  rcases open_slice_pairs ht he ce o0 o1 c0 c1 hf with ⟨hcs, _⟩ | ⟨a, len, cap, m, n, V0, V1, D0, D1, P0, P1, hcs, _, hl, hm, hmm, _, hall⟩
  · simp [Value.cells] at hcs
    obtain ⟨rfl, rfl, rfl⟩ := hcs
    exact ⟨none, 0, 0, [], rfl, ⟨rfl, fun h => absurd h (by omega)⟩, by decide, fun i hi => absurd hi (by omega)⟩
  · simp [Value.cells] at hcs
    obtain ⟨rfl, rfl, rfl⟩ := hcs
    rw [if_pos rfl] at hmm
    subst hmm
    have each : ∀ i, i < len0 → ∃ q : Dl, w.cell? (a.add (i * 2)) = some (.int .i64 q.1) ∧ w.cell? (a.add (i * 2 + 1)) = some (.int .i64 q.2) ∧ (-9223372036854775808 ≤ q.1 ∧ q.1 ≤ 9223372036854775807) ∧ (-9223372036854775808 ≤ q.2 ∧ q.2 ≤ 9223372036854775807) := by
      intro i hi
      obtain ⟨h1, h2, h3, h4⟩ := hall i (by omega)
      obtain ⟨x, e0, _, wx⟩ := DataW.trod_int t0 h3
      obtain ⟨y, e1, _, wy⟩ := DataW.trod_int t1 h4
      simp at e0 e1
      rw [e0] at h1
      rw [e1] at h2
      exact ⟨(x, y), h1, h2, bounds_i64 wx, bounds_i64 wy⟩
    let q : Nat → Dl := fun i => if hi : i < len0 then (each i hi).choose else (0, 0)
    have hq : ∀ i, i < len0 → w.cell? (a.add (i * 2)) = some (.int .i64 (q i).1) ∧ w.cell? (a.add (i * 2 + 1)) = some (.int .i64 (q i).2) ∧ (-9223372036854775808 ≤ (q i).1 ∧ (q i).1 ≤ 9223372036854775807) ∧ (-9223372036854775808 ≤ (q i).2 ∧ (q i).2 ≤ 9223372036854775807) := by
      intro i hi
      have := (each i hi).choose_spec
      simpa only [q, dif_pos hi] using this
    have hd : ∀ i, i < len0 → dlAt ((List.range len0).map q) i = q i := by
      intro i hi
      unfold dlAt
      simp [List.getD_eq_getElem?_getD, hi]
    refine ⟨some a, len0, m, (List.range len0).map q, rfl, ⟨by simp, fun h0 => ?_⟩, by omega, fun i hi => by rw [hd i hi]; exact (hq i hi).2.2⟩
    obtain ⟨b, off, spot⟩ := a
    have hc0 := (hq 0 h0).1
    have hspot : spot = none := by simpa [Addr.add] using World.cell?_spot hc0
    subst hspot
    refine ⟨b, off, rfl, fun i hi => ?_⟩
    have hadd : ∀ j, (⟨b, off, none⟩ : Addr).add j = ⟨b, off + j, none⟩ := fun j => by unfold Addr.add; split <;> simp_all
    have := hq i hi
    rw [hadd, hadd] at this
    rw [hd i hi]
    exact ⟨this.1, by rw [Nat.add_assoc]; exact this.2.1⟩
end
end Go.Proofs.Ytaflmnnnmbklfaa
