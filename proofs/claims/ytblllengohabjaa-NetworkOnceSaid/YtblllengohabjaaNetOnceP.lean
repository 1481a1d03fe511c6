/-
  kinoralaw21.NetworkOnce: what is plain of it.
-/
import Derived.Test.YtblllengohabjaaNetMore
namespace Go.Proofs.Ytblllengohabjaa
open Go.RowKit

def nth (l : List Int) (i : Nat) : Int := l.getD i 0
/-- The slice '.slice A n c' reads as the integers l. -/
def Ints (w : World) (A : Option Addr) (n : Nat) (l : List Int) : Prop := l.length = n ∧ (0 < n → ∃ b off, A = some ⟨b, off, none⟩ ∧ ∀ i < n, w.cell? ⟨b, off + i, none⟩ = some (.int .i64 (nth l i)))

/-- The delay of packet i. -/
def dlOf (l : List Int) (i : Nat) : Int := nth l i % 32
theorem dlOf_bd (l : List Int) (i : Nat) : 0 ≤ dlOf l i ∧ dlOf l i ≤ 31 := by unfold dlOf; omega
def dueCells (l : List Int) (k : Nat) : List Value := (List.range k).map fun i => .int .i64 (dlOf l i)
theorem dueCells_succ (l : List Int) (k : Nat) : dueCells l (k + 1) = dueCells l k ++ [.int .i64 (dlOf l k)] := by simp [dueCells, List.range_succ]
theorem dueCells_at (l : List Int) (k i : Nat) (h : i < k) : (dueCells l k)[i]? = some (.int .i64 (dlOf l i)) := by simp [dueCells, h]

/-- Packet p is that of number i. -/
def PkAt (l : List Int) (p : Pk) (i : Nat) : Prop := p.num = i ∧ p.due = dlOf l i ∧ p.bytes = [UInt8.ofNat i]
/-- The packets of which none has come. -/
def OncePk (l : List Int) (k : Nat) (P : List Pk) : Prop := (∀ p ∈ P, ∃ i < k, PkAt l p i) ∧ (P.map Pk.num).Nodup ∧ P.length = k

theorem OncePk.one {l : List Int} {k : Nat} {P ns : List Pk} (h : OncePk l k P) (hn : newsOf ns = [(dlOf l k, (k : Int), [UInt8.ofNat k])]) : OncePk l (k + 1) (P ++ ns) := by
  obtain ⟨p, rfl, h1, h2, h3⟩ := newsOf_one hn
  refine ⟨fun q hq => ?_, ?_, by simp [h.2.2]⟩
  · rcases List.mem_append.1 hq with hq | hq
    · obtain ⟨i, hi, ha⟩ := h.1 q hq
      exact ⟨i, by omega, ha⟩
    · rw [List.mem_singleton.1 hq]
      exact ⟨k, by omega, h2, h1, h3⟩
  · rw [List.map_append, List.nodup_append]
    refine ⟨h.2.1, by simp, fun a ha b hb => ?_⟩
    obtain ⟨q, hq, rfl⟩ := List.mem_map.1 ha
    obtain ⟨i, hi, hx, _⟩ := h.1 q hq
    simp only [List.map_cons, List.map_nil, List.mem_singleton] at hb
    rw [hb, hx, h2]
    omega

/-- At tick t: those of P are still to come, each with its number; 'last' has come last, of tick t. -/
structure Inv (l : List Int) (m t : Nat) (P : List Pk) (came : Nat → Bool) (last : Int) (got : Nat) : Prop where
  each : ∀ p ∈ P, (∃ i < m, PkAt l p i ∧ came i = false) ∧ (t : Int) ≤ p.due ∧ (p.due = t → last < p.num)
  nodup : (P.map Pk.num).Nodup
  count : got + P.length = m

theorem Inv.start {l : List Int} {m : Nat} {P : List Pk} (h : OncePk l m P) : Inv l m 0 P (fun _ => false) (-1) 0 := by
  refine ⟨fun p hp => ?_, h.2.1, by have := h.2.2; omega⟩
  obtain ⟨i, hi, ha⟩ := h.1 p hp
  refine ⟨⟨i, hi, ha, rfl⟩, ?_, fun _ => ?_⟩
  · rw [ha.2.1]; exact (dlOf_bd l i).1
  · rw [ha.1]; omega
theorem Inv.perm {l : List Int} {m t : Nat} {P Q : List Pk} {came : Nat → Bool} {last : Int} {got : Nat} (h : Inv l m t P came last got) (hp : P.Perm Q) : Inv l m t Q came last got :=
  ⟨fun p hm => h.each p (hp.mem_iff.2 hm), (hp.map _).nodup_iff.1 h.nodup, by have := hp.length_eq; have := h.count; omega⟩
theorem Inv.none_ {l : List Int} {m t : Nat} {P : List Pk} {came : Nat → Bool} {last : Int} {got : Nat} (h : Inv l m t P came last got) (hall : ∀ p ∈ P, (t : Int) < p.due) : Inv l m (t + 1) P came (-1) got := by
  refine ⟨fun p hp => ?_, h.nodup, h.count⟩
  obtain ⟨⟨i, hi, ha, hc⟩, h2, h3⟩ := h.each p hp
  have := hall p hp
  exact ⟨⟨i, hi, ha, hc⟩, by omega, fun _ => by rw [ha.1]; omega⟩
/-- The next one is of tick t. -/
theorem Inv.first {l : List Int} {m t : Nat} {p : Pk} {P : List Pk} {came : Nat → Bool} {last : Int} {got : Nat} (h : Inv l m t (p :: P) came last got) (hd : p.due ≤ t) : ∃ i < m, PkAt l p i ∧ came i = false ∧ dlOf l i = t ∧ last < i ∧ got < m := by
  obtain ⟨⟨i, hi, ha, hc⟩, h2, h3⟩ := h.each p List.mem_cons_self
  have e : p.due = t := by omega
  have h4 := h3 e
  rw [ha.1] at h4
  have := h.count
  rw [List.length_cons] at this
  exact ⟨i, hi, ha, hc, by rw [← ha.2.1]; exact e, h4, by omega⟩
theorem Inv.take {l : List Int} {m t i : Nat} {p : Pk} {P : List Pk} {came : Nat → Bool} {last : Int} {got : Nat} (h : Inv l m t (p :: P) came last got) (hp : PkAt l p i) (hd : p.due ≤ t) (hmin : ∀ q ∈ P, plt q p = false) : Inv l m t P (fun j => if j = i then true else came j) i (got + 1) := by
  have hnd := h.nodup
  rw [List.map_cons, List.nodup_cons] at hnd
  have h2 := (h.each p List.mem_cons_self).2.1
  refine ⟨fun q hq => ?_, hnd.2, by have := h.count; rw [List.length_cons] at this; omega⟩
  obtain ⟨⟨j, hj, ha, hc⟩, b2, b3⟩ := h.each q (List.mem_cons_of_mem _ hq)
  have hne : j ≠ i := by
    rintro rfl
    exact hnd.1 (List.mem_map.2 ⟨q, hq, by rw [ha.1, hp.1]⟩)
  refine ⟨⟨j, hj, ha, by rw [if_neg hne]; exact hc⟩, b2, fun e => ?_⟩
  have hq := hmin q hq
  have h6 : ¬ plt q p = true := by rw [hq]; decide
  rw [plt_iff] at h6
  have h7 := ha.1
  have h8 := hp.1
  rw [h7, h8] at h6
  omega
/-- Behind the last tick all have come. -/
theorem Inv.done {l : List Int} {m : Nat} {P : List Pk} {came : Nat → Bool} {last : Int} {got : Nat} (h : Inv l m 32 P came last got) : P = [] ∧ got = m := by
  cases P with
  | nil => exact ⟨rfl, by have := h.count; simpa using this⟩
  | cons p P =>
    obtain ⟨⟨i, hi, ha, hc⟩, h2, h3⟩ := h.each p List.mem_cons_self
    have := dlOf_bd l i
    rw [ha.2.1] at h2
    omega
theorem i64_and31 (n : Int) : bits .and .i64 n 31 = n % 32 := by
  have h15 : (BitVec.ofInt 64 31).toNat = 2 ^ 5 - 1 := by decide
  have key : (BitVec.ofInt 64 n &&& BitVec.ofInt 64 31).toNat = (n % ((2 ^ 64 : Nat) : Int)).toNat % 2 ^ 5 := by
    rw [BitVec.toNat_and, BitVec.toNat_ofInt, h15, Nat.and_two_pow_sub_one_eq_mod]
  show IntKind.i64.wrap ((BitVec.ofInt 64 n &&& BitVec.ofInt 64 31).toNat : Nat) = n % 32
  rw [key, IntKind.wrap_i64]
  omega
end Go.Proofs.Ytblllengohabjaa
