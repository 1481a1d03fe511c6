/-
  Rows of renditions copied: the source in memory, the copy the call's own.
-/
import Derived.Test.YtkobngipbhjfjaaDoorMfOwn
import Derived.Test.YtkobngipbhjfjaaDoorMfStep
import Derived.Test.YtkobngipbhjfjaaDoorMfOpen
namespace Go.Proofs.YtkobngipbhjfjaaDoor
open Go.RowKit

/-- One row's own cells, with where its pieces lie. -/
def Held (w : World) (p : Ls × Value) : Prop := ∃ A n c, p.2 = .slice A n c ∧ p.1.Ok ∧ PcsIn w A n p.1.pieces
theorem Held.quiet {w w' : World} {p : Ls × Value} (h : Held w p) (hm : Mod (fun _ => False) w w') : Held w' p := by
  obtain ⟨A, n, c, h1, h2, h3⟩ := h
  exact ⟨A, n, c, h1, h2, h3.quiet hm⟩
theorem rs_pick {w : World} {A : Option Addr} {n : Nat} {ls : List Ls} (h : RsIn w A n ls) : ∃ ps : List (Ls × Value), ps.length = n ∧ ps.map Prod.fst = ls ∧ (∀ p ∈ ps, Held w p) ∧ ∀ i p, ps[i]? = some p → ∃ b o, A = some ⟨b, o, none⟩ ∧ b < w.heap.size ∧ ∀ j v, (lsU p.1 p.2)[j]? = some v → w.cell? ⟨b, o + i * 8 + j, none⟩ = some v := by
  have hlen := h.len
  obtain ⟨ps, h1, h2⟩ := any_choose (α := Ls × Value) n (fun i p => ls[i]? = some p.1 ∧ Held w p ∧ ∃ b o, A = some ⟨b, o, none⟩ ∧ b < w.heap.size ∧ ∀ j v, (lsU p.1 p.2)[j]? = some v → w.cell? ⟨b, o + i * 8 + j, none⟩ = some v) (fun i hi => by
    obtain ⟨l, hl⟩ : ∃ l, ls[i]? = some l := ⟨_, List.getElem?_eq_getElem (by omega)⟩
    obtain ⟨b, o, A', n', c', hA, hb, hls⟩ := h.at_ i l hl
    exact ⟨(l, .slice A' n' c'), hl, ⟨A', n', c', rfl, hls.ok, hls.pcs⟩, b, o, hA, hb, hls.cells⟩)
  refine ⟨ps, h1, ?_, fun p hp => ?_, fun i p hp => (h2 i p hp).2.2⟩
  · apply List.ext_getElem?
    intro i
    rw [List.getElem?_map]
    cases hp : ps[i]? with
    | none =>
      rw [List.getElem?_eq_none_iff] at hp
      rw [List.getElem?_eq_none (by omega)]
      rfl
    | some p => exact (h2 i p hp).1.symm
  · obtain ⟨i, hi⟩ := List.getElem?_of_mem hp
    exact (h2 i p hi).2.1
def rowC (ps : List (Ls × Value)) : List Value := ps.flatMap fun p => lsU p.1 p.2
theorem rowC_len (ps : List (Ls × Value)) : (rowC ps).length = ps.length * 8 := flat_length (f := fun p : Ls × Value => lsU p.1 p.2) lsU_len ps
theorem rowC_get {ps : List (Ls × Value)} {i : Nat} {p : Ls × Value} (h : ps[i]? = some p) {j : Nat} (hj : j < 8) : (rowC ps)[i * 8 + j]? = (lsU p.1 p.2)[j]? := flat_get (f := fun p : Ls × Value => lsU p.1 p.2) lsU_len h j hj
theorem src_rows {w : World} {b o : Nat} {ps : List (Ls × Value)} (h : ∀ i p, ps[i]? = some p → ∀ j v, (lsU p.1 p.2)[j]? = some v → w.cell? ⟨b, o + i * 8 + j, none⟩ = some v) : Src w 8 (some ⟨b, o, none⟩) ps.length (rowC ps) := by
  refine ⟨rowC_len ps, (fun h => by cases h), fun ad e k u hu => ?_⟩
  injection e with e
  subst e
  have hk := (List.getElem?_eq_some_iff.1 hu).1
  rw [rowC_len] at hk
  obtain ⟨p, hp⟩ : ∃ p, ps[k / 8]? = some p := ⟨_, List.getElem?_eq_getElem (by omega)⟩
  have hj : k % 8 < 8 := Nat.mod_lt _ (by omega)
  rw [show k = k / 8 * 8 + k % 8 by omega, rowC_get hp hj] at hu
  rw [addr_add']
  have := h _ p hp _ u hu
  rwa [show o + k / 8 * 8 + k % 8 = o + k by omega] at this
theorem rowC_one {w : World} {ps : List (Ls × Value)} (h : ∀ p ∈ ps, Held w p) : ∀ u ∈ rowC ps, u.oneCell' = true := by
  intro u hu
  unfold rowC at hu
  obtain ⟨p, hp, hu⟩ := List.mem_flatMap.1 hu
  obtain ⟨A, n, c, e, _⟩ := h p hp
  exact lsU_one _ _ (by rw [e]; rfl) u hu
theorem splice_rows : ∀ {ps : List (Ls × Value)} {i : Nat} (q : Ls × Value), i < ps.length → splice (rowC ps) (i * 8) (lsU q.1 q.2) = rowC (ps.set i q)
  | [], i, q, h => by simp at h
  | p :: r, 0, q, _ => by
    show splice (lsU p.1 p.2 ++ rowC r) (0 * 8) (lsU q.1 q.2) = lsU q.1 q.2 ++ rowC r
    unfold splice
    rw [Nat.zero_mul, List.take_zero, List.nil_append, Nat.zero_add, show (lsU q.1 q.2).length = (lsU p.1 p.2).length from rfl, List.drop_left]
  | p :: r, i + 1, q, h => by
    have ih := splice_rows (ps := r) (i := i) q (by simpa using h)
    show splice (lsU p.1 p.2 ++ rowC r) ((i + 1) * 8) (lsU q.1 q.2) = lsU p.1 p.2 ++ rowC (r.set i q)
    rw [← ih, show (i + 1) * 8 = (lsU p.1 p.2).length + i * 8 by rw [show (lsU p.1 p.2).length = 8 from rfl]; omega, splice_at]
theorem rows_in {w : World} {B g n c : Nat} {ps : List (Ls × Value)} (h : w.ownsRow B 35 8 (.slice (some ⟨g, 0, none⟩) n c) n (rowC ps)) (hb : g < w.heap.size) (hp : ∀ p ∈ ps, Held w p) : RsIn w (some ⟨g, 0, none⟩) n (ps.map Prod.fst) := by
  have hl : ps.length = n := by
    have := h.1
    rw [rowC_len] at this
    omega
  refine ⟨by simpa using hl, fun i l hi => ?_⟩
  rw [List.getElem?_map] at hi
  obtain ⟨p, hpi, rfl⟩ := Option.map_eq_some_iff.1 hi
  obtain ⟨A, k, c', e, hok, hpc⟩ := hp p (List.mem_of_getElem? hpi)
  refine ⟨g, 0, A, k, c', rfl, hb, fun j v hv => ?_, hok, hpc⟩
  have hj : j < 8 := by
    rcases Nat.lt_or_ge j 8 with h' | h'
    · exact h'
    · rw [List.getElem?_eq_none (by unfold lsV; simpa using h')] at hv
      cases hv
  rw [Nat.zero_add]
  refine own_cell h ?_
  rw [rowC_get hpi hj, e]
  exact hv
end Go.Proofs.YtkobngipbhjfjaaDoor
