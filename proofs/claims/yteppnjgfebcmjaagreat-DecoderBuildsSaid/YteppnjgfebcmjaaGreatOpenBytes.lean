/-
  Arguments opened: bytes, ints.
-/
import Derived.Test.YteppnjgfebcmjaaGreatAlive13
import Derived.ProofKit
import Derived.OpenShut
import Derived.Lib.SmallJoins
namespace Go.Proofs.YteppnjgfebcmjaaGreat
open Go.RowKit Go.ChangeShapes Go.WideShapes Go.ChangeAt Go.Joins

section
variable {H : Type} {enc : TypeId × Value → H} {w : World} {base : Nat} {held : Bool}

theorem u8_back (zs : List Int) (h : ∀ n ∈ zs, (Lit.int .u8 n).wf = true) : u8s (zs.map fun n => UInt8.ofNat n.toNat) = zs.map (Value.int .u8) := by
  unfold u8s
  rw [List.map_map]
  refine List.map_congr_left fun n hn => ?_
  have hb := bounds_u8 (h n hn)
  have e : ((UInt8.ofNat n.toNat).toNat : Int) = n := by
    rw [UInt8.toNat_ofNat', Nat.mod_eq_of_lt (by omega)]
    omega
  simp only [Function.comp, e]

/-- A []byte cell that came in. -/
theorem bytes_form {fuel : Nat} {v : Value} {x : DataW H × List MemPlace} (h : DataW.trod enc Tryz.prog w base (fun _ => true) held fuel 22 [v] = some x) :
    ∃ (A : Option Addr) (n c : Nat) (l : List UInt8), v = .slice A n c ∧ n ≤ maxLen ∧ BytesIn w A n c l := by
  rcases open_ints Tryz.underlying22 Tryz.underlying5 (by kernel_rfl) h with ⟨hcs, _⟩ | ⟨a, n, c, zs, hcs, _, hl, hm, hz, _, hcell, hwz⟩
  · injection hcs with hcs
    exact ⟨none, 0, 0, [], hcs, by decide, rfl, fun _ => rfl, Src.nil, fun h0 => absurd h0 (by omega)⟩
  · injection hcs with hcs
    have hz' : zs.length = c := by simpa using hz
    have hb := u8_back (zs.take n) (fun m hm => hwz m (List.mem_of_mem_take hm))
    refine ⟨some a, n, c, (zs.take n).map fun m => UInt8.ofNat m.toNat, hcs, by omega, ?_, (fun h => by cases h), ?_, fun h0 ad e => ?_⟩
    · simp; omega
    · rw [hb]
      refine ⟨by simp; omega, (fun h => by cases h), fun ad e j u hu => ?_⟩
      injection e with e
      subst e
      have hj : j < n := by
        have := (List.getElem?_eq_some_iff.1 hu).1
        simp at this
        omega
      have := hcell j (by omega)
      rw [this, ← hu]
      simp [List.getD_eq_getElem?_getD, hj, show j < zs.length by omega]
    · injection e with e
      subst e
      have := World.block_lt_of_cell? w _ (hcell 0 (by omega))
      rwa [addr_block] at this

theorem bytes_cap {fuel : Nat} {A : Option Addr} {n c : Nat} {x : DataW H × List MemPlace} (h : DataW.trod enc Tryz.prog w base (fun _ => true) held fuel 22 [.slice A n c] = some x) : n ≤ c := by
  rcases open_ints Tryz.underlying22 Tryz.underlying5 (by kernel_rfl) h with ⟨hcs, _⟩ | ⟨a, n', c', zs, hcs, _, hl, _⟩
  · injection hcs with hcs
    injection hcs with _ e2 e3
    omega
  · injection hcs with hcs
    injection hcs with _ e2 e3
    omega
/-- A []int cell that came in. -/
theorem ints_form {fuel : Nat} {v : Value} {x : DataW H × List MemPlace} (h : DataW.trod enc Tryz.prog w base (fun _ => true) held fuel 48 [v] = some x) :
    ∃ (A : Option Addr) (n c : Nat) (l : List Int), v = .slice A n c ∧ n ≤ maxLen ∧ IntsIn w A n c l ∧ (∀ x ∈ l, -9223372036854775808 ≤ x ∧ x ≤ 9223372036854775807) := by
  rcases open_ints Tryz.underlying48 Tryz.underlying3 (by kernel_rfl) h with ⟨hcs, _⟩ | ⟨a, n, c, zs, hcs, _, hl, hm, hz, _, hcell, hwz⟩
  · injection hcs with hcs
    exact ⟨none, 0, 0, [], hcs, by decide, ⟨rfl, fun _ => rfl, Src.nil, fun h0 => absurd h0 (by omega)⟩, fun _ h => by cases h⟩
  · injection hcs with hcs
    have hz' : zs.length = c := by simpa using hz
    refine ⟨some a, n, c, zs.take n, hcs, by omega, ⟨?_, (fun h => by cases h), ?_, fun h0 ad e => ?_⟩, fun x hx => bounds_i64 (hwz x (List.mem_of_mem_take hx))⟩
    · simp; omega
    · refine ⟨by simp [i64s]; omega, (fun h => by cases h), fun ad e j u hu => ?_⟩
      injection e with e
      subst e
      have hj : j < n := by
        have := (List.getElem?_eq_some_iff.1 hu).1
        simp [i64s] at this
        omega
      have := hcell j (by omega)
      rw [this, ← hu]
      simp [i64s, List.getD_eq_getElem?_getD, hj, show j < zs.length by omega]
    · injection e with e
      subst e
      have := World.block_lt_of_cell? w _ (hcell 0 (by omega))
      rwa [addr_block] at this
end
end Go.Proofs.YteppnjgfebcmjaaGreat
