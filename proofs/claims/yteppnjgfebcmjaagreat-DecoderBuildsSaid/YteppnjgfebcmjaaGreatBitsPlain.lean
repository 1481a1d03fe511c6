/-
  Bits of bytes: plain.
-/
import GoSem.Core.World
namespace Go.Proofs.YteppnjgfebcmjaaGreat

/-- Bit i of bytes, the first one the greatest of its byte. -/
def bitAt (l : List UInt8) (i : Nat) : Nat := (l.getD (i / 8) 0).toNat / 2 ^ (7 - i % 8) % 2
/-- The number of n bits from a on. -/
def numAt (l : List UInt8) (a : Nat) : Nat → Nat
  | 0 => 0
  | n + 1 => 2 * numAt l a n + bitAt l (a + n)
theorem bitAt_lt (l : List UInt8) (i : Nat) : bitAt l i < 2 := Nat.mod_lt _ (by omega)
theorem numAt_lt (l : List UInt8) (a n : Nat) : numAt l a n < 2 ^ n := by
  induction n with
  | zero => simp [numAt]
  | succ n ih =>
    have := bitAt_lt l (a + n)
    rw [numAt, Nat.pow_succ]
    omega
theorem numAt_one (l : List UInt8) (a : Nat) : numAt l a 1 = bitAt l a := by simp [numAt]
/-- The number of a + b bits is the first's and the second's. -/
theorem numAt_add (l : List UInt8) (a m n : Nat) : numAt l a (m + n) = 2 ^ n * numAt l a m + numAt l (a + m) n := by
  induction n with
  | zero => simp [numAt]
  | succ n ih =>
    show 2 * numAt l a (m + n) + bitAt l (a + (m + n)) = _
    rw [ih, numAt, Nat.pow_succ, Nat.add_assoc a m n, Nat.mul_add]
    rw [Nat.mul_assoc, Nat.mul_comm (2 ^ n) (2 * numAt l a m), Nat.mul_assoc 2, Nat.mul_comm (numAt l a m)]
    omega

/-- A Golomb number at a, behind n noughts that were passed, among 'f' more: the number, and how many bits it has had; none: no number. -/
def gget (l : List UInt8) (a : Nat) : Nat → Nat → Option (Nat × Nat)
  | _, 0 => none
  | n, f + 1 =>
    if a + n < 8 * l.length then
      if bitAt l (a + n) = 0 then gget l a (n + 1) f
      else if a + n + 1 + n ≤ 8 * l.length then some (2 ^ n + numAt l (a + n + 1) n - 1, a + n + 1 + n) else none
    else none
end Go.Proofs.YteppnjgfebcmjaaGreat
