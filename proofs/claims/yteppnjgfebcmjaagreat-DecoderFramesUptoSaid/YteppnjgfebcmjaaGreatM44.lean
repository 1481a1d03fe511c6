/-
  Bits, plain: what the reference writes is what the program reads.
-/
import Derived.Test.YteppnjgfebcmjaaGreatM13
import Derived.Test.YteppnjgfebcmjaaGreatM8
import Derived.Test.YteppnjgfebcmjaaGreatM33
namespace Go.Proofs.YteppnjgfebcmjaaGreat
open Go.RowKit

/-- The noughts and ones that stand at a place. -/
def HasAt (l : List UInt8) (a : Nat) (bs : List UInt8) : Prop := a + bs.length ≤ 8 * l.length ∧ ∀ i, i < bs.length → bitAt l (a + i) = (bs.getD i 0).toNat
theorem HasAt.app {l : List UInt8} {a : Nat} {xs ys : List UInt8} : HasAt l a (xs ++ ys) ↔ HasAt l a xs ∧ HasAt l (a + xs.length) ys := by
  unfold HasAt
  rw [List.length_append]
  constructor
  · rintro ⟨h1, h2⟩
    refine ⟨⟨by omega, fun i hi => ?_⟩, by omega, fun i hi => ?_⟩
    · rw [h2 i (by omega), List.getD_eq_getElem?_getD, List.getElem?_append_left hi, ← List.getD_eq_getElem?_getD]
    · rw [Nat.add_assoc, h2 (xs.length + i) (by omega), List.getD_eq_getElem?_getD, List.getElem?_append_right (by omega), Nat.add_sub_cancel_left, ← List.getD_eq_getElem?_getD]
  · rintro ⟨⟨h1, h2⟩, h3, h4⟩
    refine ⟨by omega, fun i hi => ?_⟩
    by_cases h : i < xs.length
    · rw [h2 i h, List.getD_eq_getElem?_getD, List.getD_eq_getElem?_getD, List.getElem?_append_left h]
    · have := h4 (i - xs.length) (by omega)
      rw [show a + xs.length + (i - xs.length) = a + i by omega] at this
      rw [this, List.getD_eq_getElem?_getD, List.getD_eq_getElem?_getD, List.getElem?_append_right (by omega)]
theorem digitsL_at (v : Nat) : ∀ n i, i < n → ((digitsL v n).getD i 0).toNat = v / 2 ^ (n - 1 - i) % 2
  | n + 1, 0, _ => by
    show (UInt8.ofNat (v / 2 ^ n % 2)).toNat = _
    rw [bit_nat]; simp
  | n + 1, i + 1, h => by
    show ((digitsL v n).getD i 0).toNat = _
    rw [digitsL_at v n i (by omega)]
    congr 3
    omega
theorem numAt_bit (l : List UInt8) (a : Nat) : ∀ n i, i < n → numAt l a n / 2 ^ (n - 1 - i) % 2 = bitAt l (a + i)
  | n + 1, i, h => by
    have hb := bitAt_lt l (a + n)
    unfold numAt
    by_cases e : i = n
    · subst e
      rw [show i + 1 - 1 - i = 0 by omega, Nat.pow_zero, Nat.div_one]
      omega
    · have ih := numAt_bit l a n i (by omega)
      rw [show n + 1 - 1 - i = (n - 1 - i) + 1 by omega, Nat.pow_succ, Nat.mul_comm (2 ^ (n - 1 - i)) 2, ← Nat.div_div_eq_div_mul, show (2 * numAt l a n + bitAt l (a + n)) / 2 = numAt l a n by omega, ih]
theorem num_of_bits (l : List UInt8) (a v : Nat) : ∀ n, (∀ i, i < n → bitAt l (a + i) = v / 2 ^ (n - 1 - i) % 2) → numAt l a n = v % 2 ^ n
  | 0, _ => by simp [numAt, Nat.mod_one]
  | n + 1, h => by
    have h0 := h n (by omega)
    rw [show n + 1 - 1 - n = 0 by omega, Nat.pow_zero, Nat.div_one] at h0
    have ih := num_of_bits l a (v / 2) n (fun i hi => by
      rw [h i (by omega), show n + 1 - 1 - i = (n - 1 - i) + 1 by omega, Nat.pow_succ, Nat.mul_comm (2 ^ (n - 1 - i)) 2, Nat.div_div_eq_div_mul])
    unfold numAt
    rw [ih, h0, Nat.pow_succ, Nat.mul_comm (2 ^ n) 2, Nat.mod_mul]
    omega
theorem HasAt.digits {l : List UInt8} {a v n : Nat} (hv : v < 2 ^ n) : HasAt l a (digitsL v n) ↔ a + n ≤ 8 * l.length ∧ numAt l a n = v := by
  unfold HasAt
  rw [digitsL_length]
  constructor
  · rintro ⟨h1, h2⟩
    refine ⟨h1, ?_⟩
    rw [num_of_bits l a v n (fun i hi => by rw [h2 i hi, digitsL_at v n i hi]), Nat.mod_eq_of_lt hv]
  · rintro ⟨h1, rfl⟩
    exact ⟨h1, fun i hi => by rw [digitsL_at _ n i hi, numAt_bit l a n i hi]⟩
theorem gget_is (l : List UInt8) (a : Nat) : ∀ f n v a', gget l a n f = some (v, a') → ∃ j, n ≤ j ∧ j < n + f ∧ (∀ i, n ≤ i → i < j → bitAt l (a + i) = 0) ∧ bitAt l (a + j) = 1 ∧ a' = a + j + 1 + j ∧ a' ≤ 8 * l.length ∧ v = 2 ^ j + numAt l (a + j + 1) j - 1
  | 0, n, v, a', h => by cases n <;> cases h
  | f + 1, n, v, a', h => by
    unfold gget at h
    split at h
    · split at h
      · rename_i hb
        obtain ⟨j, h1, h2, h3, h4⟩ := gget_is l a f (n + 1) v a' h
        refine ⟨j, by omega, by omega, fun i hi hj => ?_, h4⟩
        by_cases e : i = n
        · subst e; exact hb
        · exact h3 i (by omega) hj
      · rename_i hb
        have := bitAt_lt l (a + n)
        split at h
        · injection h with h
          injection h with e1 e2
          exact ⟨n, by omega, by omega, fun i hi hj => by omega, by omega, e2.symm, by omega, e1.symm⟩
        · cases h
    · cases h
theorem gget_of (l : List UInt8) (a j : Nat) (hj : bitAt l (a + j) = 1) (hl : a + j + 1 + j ≤ 8 * l.length) : ∀ f n, n ≤ j → j < n + f → (∀ i, n ≤ i → i < j → bitAt l (a + i) = 0) → gget l a n f = some (2 ^ j + numAt l (a + j + 1) j - 1, a + j + 1 + j)
  | 0, n, h1, h2, _ => by omega
  | f + 1, n, h1, h2, h3 => by
    unfold gget
    rw [if_pos (by omega)]
    by_cases e : n = j
    · subst e
      rw [if_neg (by omega), if_pos hl]
    · rw [if_pos (h3 n (by omega) (by omega))]
      exact gget_of l a j hj hl f (n + 1) (by omega) (by omega) (fun i hi hj => h3 i (by omega) hj)
theorem numAt_zeros (l : List UInt8) (a : Nat) : ∀ n, (∀ i, i < n → bitAt l (a + i) = 0) → numAt l a n = 0
  | 0, _ => rfl
  | n + 1, h => by
    unfold numAt
    rw [numAt_zeros l a n (fun i hi => h i (by omega)), h n (by omega)]
theorem blen_of (k m : Nat) (h1 : 2 ^ k ≤ m) (h2 : m < 2 ^ (k + 1)) : blen m = k + 1 := by
  have h0 : m ≠ 0 := by have := Nat.two_pow_pos k; omega
  unfold blen
  rw [if_neg h0]
  have := (Nat.log2_eq_iff h0 (k := k)).2 ⟨h1, h2⟩
  omega
theorem blen_is (m : Nat) (h : 0 < m) : 2 ^ (blen m - 1) ≤ m ∧ m < 2 ^ (blen m - 1 + 1) := by
  have h0 : m ≠ 0 := by omega
  unfold blen
  rw [if_neg h0]
  exact (Nat.log2_eq_iff h0).1 rfl
theorem codeL_len (v : Nat) : (codeL v).length = 2 * (blen (v + 1) - 1) + 1 := by
  unfold codeL
  rw [digitsL_length]
  have : 1 ≤ blen (v + 1) := by unfold blen; rw [if_neg (by omega)]; omega
  omega
theorem HasAt.code {l : List UInt8} {a v a' : Nat} (hv : v + 1 < 2 ^ 32) : (HasAt l a (codeL v) ∧ a' = a + (codeL v).length) ↔ gget l a 0 32 = some (v, a') := by
  obtain ⟨k, hk⟩ : ∃ k, k = blen (v + 1) - 1 := ⟨_, rfl⟩
  obtain ⟨b1, b2⟩ := blen_is (v + 1) (by omega)
  have hlen := codeL_len v
  rw [← hk] at b1 b2 hlen
  have h1 : 1 ≤ blen (v + 1) := by unfold blen; rw [if_neg (by omega)]; omega
  have hlt : v + 1 < 2 ^ (2 * k + 1) := Nat.lt_of_lt_of_le b2 (Nat.pow_le_pow_right (by omega) (by omega))
  have hd := HasAt.digits (l := l) (a := a) hlt
  have hcode : codeL v = digitsL (v + 1) (2 * k + 1) := by unfold codeL; congr 1; omega
  rw [hlen, hcode, hd]
  have hsplit : numAt l a (2 * k + 1) = 2 ^ k * numAt l a (k + 1) + numAt l (a + (k + 1)) k := by
    rw [show 2 * k + 1 = (k + 1) + k by omega, numAt_add]
  have hnk := numAt_lt l (a + (k + 1)) k
  constructor
  · rintro ⟨⟨h2, h3⟩, rfl⟩
    have hk32 : k < 32 := by
      rcases Nat.lt_or_ge k 32 with hge | hge
      · exact hge
      · exfalso
        have := Nat.pow_le_pow_right (n := 2) (by omega) hge
        omega
    have hone : numAt l a (k + 1) = 1 := by
      rw [hsplit] at h3
      have e1 : 2 ^ k * numAt l a (k + 1) < 2 ^ k * 2 := by rw [Nat.pow_succ] at b2; omega
      have e2 := Nat.lt_of_mul_lt_mul_left e1
      by_cases e3 : numAt l a (k + 1) = 0
      · rw [e3] at h3; omega
      · omega
    have hbits : ∀ i, i < k + 1 → bitAt l (a + i) = 1 / 2 ^ (k + 1 - 1 - i) % 2 := fun i hi => by
      rw [← numAt_bit l a (k + 1) i hi, hone]
    have hz : ∀ i, 0 ≤ i → i < k → bitAt l (a + i) = 0 := fun i _ hi => by
      rw [hbits i (by omega)]
      have : 2 ^ 1 ≤ 2 ^ (k + 1 - 1 - i) := Nat.pow_le_pow_right (by omega) (by omega)
      rw [Nat.div_eq_of_lt (by omega)]
    have ho : bitAt l (a + k) = 1 := by
      rw [hbits k (by omega), show k + 1 - 1 - k = 0 by omega]
    have := gget_of l a k ho (by omega) 32 0 (by omega) (by omega) hz
    rw [this, show a + k + 1 + k = a + (2 * k + 1) by omega]
    rw [hsplit, hone, Nat.mul_one] at h3
    rw [show a + (k + 1) = a + k + 1 by omega] at h3
    rw [h3, Nat.add_sub_cancel]
  · intro h
    obtain ⟨j, _, h2, h3, h4, h5, h6, h7⟩ := gget_is l a 32 0 v a' h
    have hn := numAt_lt l (a + j + 1) j
    have hv1 : v + 1 = 2 ^ j + numAt l (a + j + 1) j := by have := Nat.two_pow_pos j; omega
    have hb := blen_of j (v + 1) (by omega) (by rw [Nat.pow_succ]; omega)
    have hjk : j = k := by omega
    subst hjk
    have hz := numAt_zeros l a j (fun i hi => h3 i (by omega) hi)
    have hone : numAt l a (j + 1) = 1 := by unfold numAt; rw [hz, h4]
    refine ⟨⟨by omega, ?_⟩, by omega⟩
    rw [hsplit, hone, Nat.mul_one, show a + (j + 1) = a + j + 1 by omega, hv1]
end Go.Proofs.YteppnjgfebcmjaaGreat

/-
  Bits, plain: headers and sequences, read as they are written.
-/
namespace Go.Proofs.YteppnjgfebcmjaaGreat
open Go.RowKit

def Bits01 (bs : List UInt8) : Prop := ∀ i, (bs.getD i 0).toNat ≤ 1
theorem digits01 (v : Nat) : ∀ n, Bits01 (digitsL v n)
  | 0 => fun i => by simp [digitsL]
  | n + 1 => fun i => by
    cases i with
    | zero => show (UInt8.ofNat (v / 2 ^ n % 2)).toNat ≤ 1; rw [bit_nat]; omega
    | succ i => exact digits01 v n i
theorem Bits01.app {xs ys : List UInt8} (h1 : Bits01 xs) (h2 : Bits01 ys) : Bits01 (xs ++ ys) := fun i => by
  by_cases h : i < xs.length
  · rw [List.getD_eq_getElem?_getD, List.getElem?_append_left h, ← List.getD_eq_getElem?_getD]; exact h1 i
  · rw [List.getD_eq_getElem?_getD, List.getElem?_append_right (by omega), ← List.getD_eq_getElem?_getD]; exact h2 _
theorem code01 (v : Nat) : Bits01 (codeL v) := digits01 _ _
theorem packV_bit {bs : List UInt8} (h : Bits01 bs) (a : Nat) : ∀ n i, i < n → packV bs a n / 2 ^ (n - 1 - i) % 2 = (bs.getD (a + i) 0).toNat
  | n + 1, i, hi => by
    have hb := h (a + n)
    unfold packV
    by_cases e : i = n
    · subst e
      rw [show i + 1 - 1 - i = 0 by omega, Nat.pow_zero, Nat.div_one]
      omega
    · have ih := packV_bit h a n i (by omega)
      rw [show n + 1 - 1 - i = (n - 1 - i) + 1 by omega, Nat.pow_succ, Nat.mul_comm (2 ^ (n - 1 - i)) 2, ← Nat.div_div_eq_div_mul, show (2 * packV bs a n + (bs.getD (a + n) 0).toNat) / 2 = packV bs a n by omega, ih]
theorem packV_lt2 {bs : List UInt8} (h : Bits01 bs) (a : Nat) : ∀ n, packV bs a n < 2 ^ n
  | 0 => by simp [packV]
  | n + 1 => by
    have hb := h (a + n)
    have := packV_lt2 h a n
    unfold packV
    rw [Nat.pow_succ]
    omega
theorem packL_len (bs : List UInt8) : (packL bs).length = (bs.length + 7) / 8 := by unfold packL; rw [packTo_length]
theorem packL_bit {bs : List UInt8} (h : Bits01 bs) {i : Nat} (hi : i < 8 * ((bs.length + 7) / 8)) : bitAt (packL bs) i = (bs.getD i 0).toNat := by
  have hq : i / 8 < (bs.length + 7) / 8 := by omega
  have e : (packL bs).getD (i / 8) 0 = UInt8.ofNat (packV bs (8 * (i / 8)) 8) := by unfold packL packTo; simp [hq]
  have h1 := packV_lt2 h (8 * (i / 8)) 8
  unfold bitAt
  rw [e, UInt8.toNat_ofNat', show packV bs (8 * (i / 8)) 8 % 2 ^ 8 = packV bs (8 * (i / 8)) 8 from Nat.mod_eq_of_lt h1]
  have := packV_bit h (8 * (i / 8)) 8 (i % 8) (by omega)
  rw [show 8 * (i / 8) + i % 8 = i by omega] at this
  rw [← this]
theorem byte_ext {x y : UInt8} (h : ∀ m, m < 8 → x.toNat / 2 ^ (7 - m) % 2 = y.toNat / 2 ^ (7 - m) % 2) : x = y := by
  have hx := UInt8.toNat_lt x
  have hy := UInt8.toNat_lt y
  have h0 := h 0 (by omega)
  have h1 := h 1 (by omega)
  have h2 := h 2 (by omega)
  have h3 := h 3 (by omega)
  have h4 := h 4 (by omega)
  have h5 := h 5 (by omega)
  have h6 := h 6 (by omega)
  have h7 := h 7 (by omega)
  simp only [Nat.reduceSub, Nat.reducePow] at h0 h1 h2 h3 h4 h5 h6 h7
  exact UInt8.toNat_inj.1 (by omega)
/-- Bytes that begin with the packed bits. -/
def Pre (l x : List UInt8) : Prop := x.length ≤ l.length ∧ l.take x.length = x
def ZerosTo (l : List UInt8) (a b : Nat) : Prop := ∀ i, a ≤ i → i < b → bitAt l i = 0
theorem pre_iff {l bs : List UInt8} (h : Bits01 bs) : Pre l (packL bs) ↔ HasAt l 0 bs ∧ ZerosTo l bs.length (8 * ((bs.length + 7) / 8)) := by
  have hlen := packL_len bs
  unfold Pre
  constructor
  · rintro ⟨h1, h2⟩
    have hb : ∀ i, i < 8 * ((bs.length + 7) / 8) → bitAt l i = (bs.getD i 0).toNat := fun i hi => by
      rw [← packL_bit h hi, ← h2]
      unfold bitAt
      rw [List.getD_eq_getElem?_getD, List.getD_eq_getElem?_getD, List.getElem?_take, if_pos (by omega)]
    refine ⟨⟨by omega, fun i hi => by rw [Nat.zero_add]; exact hb i (by omega)⟩, fun i h3 h4 => ?_⟩
    rw [hb i h4, List.getD_eq_getElem?_getD, List.getElem?_eq_none h3]
    rfl
  · rintro ⟨⟨h1, h2⟩, h3⟩
    refine ⟨by omega, ?_⟩
    refine List.ext_getElem (by rw [List.length_take]; omega) fun t ht1 ht2 => ?_
    have hb : ∀ i, i < 8 * ((bs.length + 7) / 8) → bitAt l i = bitAt (packL bs) i := fun i hi => by
      rw [packL_bit h hi]
      by_cases e : i < bs.length
      · have := h2 i e; rwa [Nat.zero_add] at this
      · rw [h3 i (by omega) hi, List.getD_eq_getElem?_getD, List.getElem?_eq_none (by omega)]
        rfl
    rw [List.getElem_take]
    apply byte_ext
    intro m hm
    have := hb (8 * t + m) (by omega)
    unfold bitAt at this
    rw [show (8 * t + m) / 8 = t by omega, show (8 * t + m) % 8 = m by omega, List.getD_eq_getElem?_getD, List.getD_eq_getElem?_getD, List.getElem?_eq_getElem (by omega), List.getElem?_eq_getElem ht2] at this
    exact this
theorem low_mod (x : Nat) : ∀ k, x % 2 ^ k = 0 ↔ ∀ j, j < k → x / 2 ^ j % 2 = 0
  | 0 => by simp [Nat.mod_one]
  | k + 1 => by
    have ih := low_mod x k
    have hp := Nat.two_pow_pos k
    rw [Nat.mod_pow_succ]
    constructor
    · intro h j hj
      have h1 : x % 2 ^ k = 0 := by omega
      by_cases e : j = k
      · subst e
        have h2 : 2 ^ j * (x / 2 ^ j % 2) = 0 := by omega
        rcases Nat.mul_eq_zero.1 h2 with h3 | h3
        · omega
        · exact h3
      · exact ih.1 h1 j (by omega)
    · intro h
      rw [ih.2 (fun j hj => h j (by omega)), h k (by omega), Nat.mul_zero]
theorem low_iff (x r : Nat) (h2 : r < 8) : x * 2 ^ r % 256 = 0 ↔ ∀ m, r ≤ m → m < 8 → x / 2 ^ (7 - m) % 2 = 0 := by
  have e : (256 : Nat) = 2 ^ (8 - r) * 2 ^ r := by rw [← Nat.pow_add, show 8 - r + r = 8 by omega]
  rw [e, Nat.mul_mod_mul_right]
  have hp := Nat.two_pow_pos r
  have hm := low_mod x (8 - r)
  constructor
  · intro h m h3 h4
    rcases Nat.mul_eq_zero.1 h with h5 | h5
    · exact hm.1 h5 (7 - m) (by omega)
    · omega
  · intro h
    rw [hm.2 (fun j hj => by
      have := h (7 - j) (by omega) (by omega)
      rwa [show 7 - (7 - j) = j by omega] at this), Nat.zero_mul]
theorem align_iff (l : List UInt8) (a b : Nat) : alignAt l a = some b ↔ b = 8 * ((a + 7) / 8) ∧ ZerosTo l a (8 * ((a + 7) / 8)) := by
  unfold alignAt ZerosTo
  by_cases h : a % 8 = 0
  · rw [if_pos h]
    constructor
    · intro e; injection e with e; exact ⟨by omega, fun i h1 h2 => by omega⟩
    · rintro ⟨rfl, _⟩; congr 1; omega
  · rw [if_neg h]
    have hl := low_iff (l.getD (a / 8) 0).toNat (a % 8) (by omega)
    have hz : (∀ m, a % 8 ≤ m → m < 8 → (l.getD (a / 8) 0).toNat / 2 ^ (7 - m) % 2 = 0) ↔ ∀ i, a ≤ i → i < 8 * ((a + 7) / 8) → bitAt l i = 0 := by
      constructor
      · intro g i h1 h2
        unfold bitAt
        rw [show i / 8 = a / 8 by omega]
        exact g (i % 8) (by omega) (by omega)
      · intro g m h1 h2
        have := g (8 * (a / 8) + m) (by omega) (by omega)
        unfold bitAt at this
        rwa [show (8 * (a / 8) + m) / 8 = a / 8 by omega, show (8 * (a / 8) + m) % 8 = m by omega] at this
    by_cases e : (l.getD (a / 8) 0).toNat * 2 ^ (a % 8) % 256 = 0
    · rw [if_pos e]
      constructor
      · intro e2; injection e2 with e2; exact ⟨by omega, hz.1 (hl.1 e)⟩
      · rintro ⟨rfl, _⟩; congr 1; omega
    · rw [if_neg e]
      constructor
      · intro e2; cases e2
      · rintro ⟨_, g⟩; exact absurd (hl.2 (hz.2 g)) e

/-- A header's bits. -/
def hdrBits (N Q : Nat) : List UInt8 := digitsL (if N = 0 then 1 else 0) 1 ++ codeL N ++ digitsL Q 5
def hdrB (N Q : Nat) : List UInt8 := packL (hdrBits N Q)
theorem hdrBits01 (N Q : Nat) : Bits01 (hdrBits N Q) := ((digits01 _ _).app (code01 _)).app (digits01 _ _)
theorem hdr_of {l : List UInt8} {W H G : Int} {N Q : Nat} (hr : seqRight W H G = true) (hN : (N : Int) < G) (hG : G ≤ 64) (hQ : Q ≤ 31) (hp : Pre l (hdrB N Q)) : hdrParse l W H G = some ((decide (N = 0), (N : Int), (Q : Int)), 8 * (hdrB N Q).length) := by
  obtain ⟨h1, hz⟩ := (pre_iff (hdrBits01 N Q)).1 hp
  unfold hdrBits at h1
  rw [HasAt.app, HasAt.app] at h1
  obtain ⟨⟨hk, hc⟩, hq⟩ := h1
  have hk2 := (HasAt.digits (by split <;> omega)).1 hk
  rw [digitsL_length] at hc
  have hg := (HasAt.code (a' := 0 + 1 + (codeL N).length) (by omega)).1 ⟨hc, rfl⟩
  rw [List.length_append, digitsL_length] at hq
  have hq2 := (HasAt.digits (by omega)).1 hq
  have hlen : (hdrBits N Q).length = 1 + (codeL N).length + 5 := by unfold hdrBits; simp [digitsL_length]; omega
  have ha := (align_iff l (0 + (1 + (codeL N).length) + 5) (8 * (hdrB N Q).length)).2 (by
    unfold hdrB
    rw [packL_len, hlen]
    rw [hlen] at hz
    refine ⟨by congr 2; omega, ?_⟩
    rw [show 0 + (1 + (codeL N).length) + 5 = 1 + (codeL N).length + 5 by omega]
    exact hz)
  have hf : hdrFits (((if N = 0 then 1 else 0 : Nat) : Int) == 1) (N : Int) (Q : Int) W H G = true := by
    unfold hdrFits
    rw [hr]
    simp only [Bool.true_and, Bool.and_eq_true, decide_eq_true_eq]
    refine ⟨by omega, ?_⟩
    by_cases e : N = 0
    · subst e; rfl
    · rw [if_neg e]
      have : ((N : Int) == 0) = false := by rw [beq_eq_false_iff_ne]; omega
      rw [this]
      rfl
  have hK : (((if N = 0 then 1 else 0 : Nat) : Int) == 1) = decide (N = 0) := by
    by_cases e : N = 0
    · subst e; rfl
    · rw [if_neg e, decide_eq_false e]; rfl
  unfold hdrParse bget
  rw [if_pos hk2.1, hk2.2]
  dsimp only
  rw [hg]
  dsimp only
  rw [show 0 + 1 + (codeL N).length = 0 + (1 + (codeL N).length) by omega, if_pos hq2.1, hq2.2]
  dsimp only
  rw [if_pos hf, ha, hK]
theorem hdr_is {l : List UInt8} {W H G : Int} {K : Bool} {N Q : Int} {a4 : Nat} (h : hdrParse l W H G = some ((K, N, Q), a4)) : seqRight W H G = true ∧ G ≤ 64 ∧ ∃ n q : Nat, N = (n : Int) ∧ Q = (q : Int) ∧ (n : Int) < G ∧ q ≤ 31 ∧ Pre l (hdrB n q) := by
  unfold hdrParse at h
  split at h
  · cases h
  rename_i k a1 hk
  split at h
  · cases h
  rename_i n a2 hg
  split at h
  · cases h
  rename_i q a3 hq
  split at h
  · rename_i hf
    split at h
    · cases h
    rename_i a4' ha
    injection h with h
    injection h with h1 h2
    injection h1 with h3 h4
    injection h4 with h5 h6
    unfold hdrFits at hf
    simp only [Bool.and_eq_true, decide_eq_true_eq] at hf
    obtain ⟨⟨hr, hf2⟩, hf3⟩ := hf
    have hG : G ≤ 64 := by
      unfold seqRight at hr
      rw [decide_eq_true_eq] at hr
      omega
    refine ⟨hr, hG, n, q, h5.symm, h6.symm, by omega, by omega, ?_⟩
    unfold bget at hk hq
    split at hk
    rotate_left
    · cases hk
    rename_i hk1
    injection hk with hk
    injection hk with hk2 hk3
    split at hq
    rotate_left
    · cases hq
    rename_i hq1
    injection hq with hq
    injection hq with hq2 hq3
    have hkl := numAt_lt l 0 1
    rw [hk2] at hkl
    have hkn : k = if n = 0 then 1 else 0 := by
      by_cases e : n = 0
      · rw [if_pos e]
        have e2 : ((n : Int) == 0) = true := by rw [beq_iff_eq]; omega
        rw [e2] at hf3
        have : ((k : Int) == 1) = true := by simpa using hf3
        rw [beq_iff_eq] at this
        omega
      · rw [if_neg e]
        have e2 : ((n : Int) == 0) = false := by rw [beq_eq_false_iff_ne]; omega
        rw [e2] at hf3
        have : ((k : Int) == 1) = false := by simpa using hf3
        rw [beq_eq_false_iff_ne] at this
        omega
    obtain ⟨hc, hc2⟩ := (HasAt.code (v := n) (by omega)).2 hg
    have hlen : (hdrBits n q).length = 1 + (codeL n).length + 5 := by unfold hdrBits; simp [digitsL_length]; omega
    obtain ⟨hal, hz⟩ := (align_iff _ _ _).1 ha
    refine (pre_iff (hdrBits01 n q)).2 ⟨?_, ?_⟩
    · unfold hdrBits
      rw [HasAt.app, HasAt.app, List.length_append, digitsL_length]
      refine ⟨⟨(HasAt.digits (by split <;> omega)).2 ⟨hk1, by rw [hk2, hkn]⟩, by rw [← hk3] at hc; exact hc⟩, (HasAt.digits (by omega)).2 ⟨by omega, ?_⟩⟩
      rw [← hq2]
      congr 1
      omega
    · rw [hlen, show 1 + (codeL n).length + 5 = a3 by omega]
      exact hz
  · cases h
end Go.Proofs.YteppnjgfebcmjaaGreat

/-
  Bits, plain: the reference's sequences are the program's.
-/
namespace Go.Proofs.YteppnjgfebcmjaaGreat
open Go.RowKit

def seqBits (x y z : Nat) : List UInt8 := digitsL 19273 16 ++ codeL x ++ codeL y ++ codeL z
theorem seqBits01 (x y z : Nat) : Bits01 (seqBits x y z) := (((digits01 _ _).app (code01 _)).app (code01 _)).app (code01 _)
theorem seqB_is (x y z : Nat) : seqB (16 * ((x : Int) + 1)) (16 * ((y : Int) + 1)) ((z : Int) + 1) = packL (seqBits x y z) := by
  unfold seqB seqBits
  rw [show (16 * ((x : Int) + 1) / 16 - 1).toNat = x by omega, show (16 * ((y : Int) + 1) / 16 - 1).toNat = y by omega, show ((z : Int) + 1 - 1).toNat = z by omega]
theorem pre_all {l x : List UInt8} : Pre l x ∧ x.length = l.length ↔ x = l := by
  unfold Pre
  constructor
  · rintro ⟨⟨_, h⟩, e⟩
    rw [e, List.take_length] at h
    exact h.symm
  · rintro rfl
    exact ⟨⟨Nat.le_refl _, List.take_length⟩, rfl⟩
theorem seq_bits {l : List UInt8} {x y z : Nat} (hx : x ≤ 999) (hy : y ≤ 999) (hz : z ≤ 999) : seqB (16 * ((x : Int) + 1)) (16 * ((y : Int) + 1)) ((z : Int) + 1) = l ↔
    (16 ≤ 8 * l.length ∧ numAt l 0 16 = 19273) ∧ ∃ a1 a2 a3, gget l 16 0 32 = some (x, a1) ∧ gget l a1 0 32 = some (y, a2) ∧ gget l a2 0 32 = some (z, a3) ∧ alignAt l a3 = some (8 * l.length) := by
  rw [seqB_is, ← pre_all, pre_iff (seqBits01 x y z), packL_len]
  have hlen : (seqBits x y z).length = 16 + (codeL x).length + (codeL y).length + (codeL z).length := by unfold seqBits; simp [digitsL_length]; omega
  have h1 := HasAt.digits (l := l) (a := 0) (v := 19273) (n := 16) (by decide)
  have c1 := fun a1 => HasAt.code (l := l) (a := 16) (v := x) (a' := a1) (by omega)
  have c2 := fun a1 a2 => HasAt.code (l := l) (a := a1) (v := y) (a' := a2) (by omega)
  have c3 := fun a2 a3 => HasAt.code (l := l) (a := a2) (v := z) (a' := a3) (by omega)
  rw [show HasAt l 0 (seqBits x y z) ↔ ((HasAt l 0 (digitsL 19273 16) ∧ HasAt l 16 (codeL x)) ∧ HasAt l (16 + (codeL x).length) (codeL y)) ∧ HasAt l (16 + (codeL x).length + (codeL y).length) (codeL z) by
    unfold seqBits
    rw [HasAt.app, HasAt.app, HasAt.app]
    simp only [List.length_append, digitsL_length, Nat.zero_add]]
  rw [h1, Nat.zero_add]
  constructor
  · rintro ⟨⟨⟨⟨⟨p1, p2⟩, p3⟩, p4⟩, p5⟩, e⟩
    refine ⟨p1, _, _, _, (c1 _).1 ⟨p2, rfl⟩, (c2 _ _).1 ⟨p3, rfl⟩, (c3 _ _).1 ⟨p4, rfl⟩, ?_⟩
    rw [align_iff, ← hlen]
    exact ⟨by rw [e], p5⟩
  · rintro ⟨p1, a1, a2, a3, g1, g2, g3, ha⟩
    obtain ⟨q1, rfl⟩ := (c1 _).2 g1
    obtain ⟨q2, rfl⟩ := (c2 _ _).2 g2
    obtain ⟨q3, rfl⟩ := (c3 _ _).2 g3
    rw [align_iff, ← hlen] at ha
    exact ⟨⟨⟨⟨⟨p1, q1⟩, q2⟩, q3⟩, ha.2⟩, by omega⟩
theorem gget_small {l : List UInt8} {a a' v : Nat} (h : gget l a 0 32 = some (v, a')) : v + 1 < 2 ^ 32 := by
  obtain ⟨j, _, h2, _, _, _, _, h7⟩ := gget_is l a 32 0 v a' h
  have hn := numAt_lt l (a + j + 1) j
  have hp := Nat.two_pow_pos j
  have := Nat.pow_le_pow_right (n := 2) (by omega) (show j + 1 ≤ 32 by omega)
  rw [Nat.pow_succ] at this
  omega
theorem seq_right_bd {x y z : Nat} (h : seqRight (((x : Int) + 1) * 16) (((y : Int) + 1) * 16) ((z : Int) + 1) = true) : x ≤ 999 ∧ y ≤ 999 ∧ z ≤ 999 := by
  unfold seqRight at h
  rw [decide_eq_true_eq] at h
  omega
theorem rseq_eq (l : List UInt8) : rseqParse l = seqParse l := by
  cases hs : seqParse l with
  | some s =>
    unfold seqParse at hs
    split at hs
    rotate_left
    · cases hs
    rename_i h16
    split at hs
    · cases hs
    rename_i x a1 g1
    split at hs
    · cases hs
    rename_i y a2 g2
    split at hs
    · cases hs
    rename_i z a3 g3
    split at hs
    rotate_left
    · cases hs
    rename_i hc
    injection hs with hs
    obtain ⟨b1, b2, b3⟩ := seq_right_bd hc.2.1
    have hb := (seq_bits (l := l) b1 b2 b3).2 ⟨⟨h16, hc.1⟩, a1, a2, a3, g1, g2, g3, hc.2.2⟩
    have hr := hc.2.1
    rw [Int.mul_comm, Int.mul_comm ((y : Int) + 1)] at hr
    unfold rseqParse gAt
    rw [if_pos h16]
    dsimp only
    rw [g1]
    dsimp only
    rw [g2]
    dsimp only
    rw [g3]
    dsimp only
    rw [if_pos ⟨b1, b2, b3, hr, hb⟩, ← hs, Int.mul_comm 16, Int.mul_comm 16]
  | none =>
    cases hr : rseqParse l with
    | none => rfl
    | some s =>
      exfalso
      unfold rseqParse at hr
      dsimp only at hr
      split at hr
      · rename_i x y z _ _ _
        split at hr
        · rename_i hc
          obtain ⟨b1, b2, b3, hrt, hb⟩ := hc
          obtain ⟨⟨h16, hm⟩, a1, a2, a3, g1, g2, g3, ha⟩ := (seq_bits (l := l) b1 b2 b3).1 hb
          rw [Int.mul_comm, Int.mul_comm 16 ((y : Int) + 1)] at hrt
          unfold seqParse at hs
          rw [if_pos h16, g1] at hs
          dsimp only at hs
          rw [g2] at hs
          dsimp only at hs
          rw [g3] at hs
          dsimp only at hs
          rw [if_pos ⟨hm, hrt, ha⟩] at hs
          cases hs
        · cases hr
      · cases hr
end Go.Proofs.YteppnjgfebcmjaaGreat

/-
  decoder: a coded frame, plain; a decoder in memory.
-/
namespace Go.Proofs.YteppnjgfebcmjaaGreat
open Go.RowKit

def noPix : Pix := ⟨[], [], []⟩
/-- Must there be a frame ahead that isn't? -/
def keyless (K : Bool) (N nx : Int) : Bool := decide (K = false ∧ (N ≠ nx ∨ nx = 0))
/-- A coded frame's: the error, or the frame and the next number. -/
def frameS (d : Dim) (G nx : Int) (ah : Option Pix) (l : List UInt8) : Except Int (Pix × Int) :=
  match hdrParse l d.W d.H G with
  | none => .error 121
  | some ((K, N, Q), a4) =>
    if keyless K N nx = true then .error 131
    else match builtS d (ah.getD noPix) K Q (l.drop ((a4 + 7) / 8)) with
      | none => .error 132
      | some f => .ok (smPix Q.toNat d f, (N + 1) % G)
theorem hdr_right {l : List UInt8} {W H G : Int} {K : Bool} {N Q : Int} {a4 : Nat} (h : hdrParse l W H G = some ((K, N, Q), a4)) : hdrFits K N Q W H G = true := by
  unfold hdrParse at h
  split at h
  · cases h
  · split at h
    · cases h
    · split at h
      · cases h
      · split at h
        · rename_i hf
          split at h
          · cases h
          · injection h with h
            injection h with h1 h2
            injection h1 with h3 h4
            injection h4 with h5 h6
            subst h3 h5 h6
            exact hf
        · cases h
theorem hdr_bounds {l : List UInt8} {W H G : Int} {K : Bool} {N Q : Int} {a4 : Nat} (h : hdrParse l W H G = some ((K, N, Q), a4)) : (0 ≤ Q ∧ Q ≤ 31) ∧ (0 ≤ N ∧ N < G ∧ G ≤ 64) ∧ K = decide (N = 0) := by
  have h1 := hdr_right h
  unfold hdrFits seqRight at h1
  simp only [Bool.and_eq_true, decide_eq_true_eq, beq_iff_eq] at h1
  obtain ⟨⟨⟨_, _, h6, h7⟩, h2, h3, h4, h5⟩, hk⟩ := h1
  exact ⟨⟨h2, h3⟩, ⟨h4, h5, h7⟩, by rw [hk]; exact Bool.beq_eq_decide_eq N 0⟩
/-- A decoder in memory: its sequence, the next number, the frame ahead. -/
def DecAt (w : World) (dg : Nat) (d : Dim) (G nx : Int) (ah : Option Pix) : Prop :=
  ∃ fr ay au av, Blk w dg 60 (decCells d.W d.H G nx fr) ∧ fr.length = 9 ∧ (ah = none → nx = 0) ∧ ∀ f, ah = some f → fr = frameV d ay au av ∧ FrameAt w d ay au av f
theorem DecAt.keep {w w' : World} {S : Nat → Prop} {dg : Nat} {d : Dim} {G nx : Int} {ah : Option Pix} (h : DecAt w dg d G nx ah) (hm : Mod S w w') (hg : ¬ S dg) (hS : ∀ j, S j → ∃ t cs, Blk w j t cs ∧ t ≠ 5) : DecAt w' dg d G nx ah := by
  obtain ⟨fr, ay, au, av, hb, hl, hn, hf⟩ := h
  refine ⟨fr, ay, au, av, hb.keep hm hg, hl, hn, fun f e => ?_⟩
  obtain ⟨h1, h2⟩ := hf f e
  have ne : ∀ {j cs}, Blk w j 5 cs → ¬ S j := fun hb hj => by
    obtain ⟨t, cs', hb', ht⟩ := hS _ hj
    exact hb'.ne_ hb ht rfl
  exact ⟨h1, h2.mod hm (ne h2.by_) (ne h2.bu) (ne h2.bv)⟩
theorem DecAt.quiet {w w' : World} {dg : Nat} {d : Dim} {G nx : Int} {ah : Option Pix} (h : DecAt w dg d G nx ah) (hm : Mod (fun _ => False) w w') : DecAt w' dg d G nx ah := h.keep hm (fun h => h) (fun _ h => h.elim)
theorem DecAt.lt {w : World} {dg : Nat} {d : Dim} {G nx : Int} {ah : Option Pix} (h : DecAt w dg d G nx ah) : dg < w.heap.size := by
  obtain ⟨fr, ay, au, av, hb, _⟩ := h
  exact hb.lt
theorem DecAt.beside {w w' : World} {dg mg : Nat} {d d' : Dim} {G nx G' nx' : Int} {ah ah' : Option Pix} (h : DecAt w dg d G nx ah) (hm : Mod (· = mg) w w') (hg : dg ≠ mg) (h' : DecAt w mg d' G' nx' ah') : DecAt w' dg d G nx ah := by
  obtain ⟨fr, ay, au, av, hb, _⟩ := h'
  exact h.keep hm hg (fun j e => by subst e; exact ⟨_, _, hb, by decide⟩)
/-- What a decoder's Frame does. -/
def DFrPost (w : World) (dg : Nat) (d : Dim) (G nx : Int) (ah : Option Pix) (l : List UInt8) (e : Ending) (w' : World) : Prop :=
  (∃ er : Int, frameS d G nx ah l = .error er ∧ e = .returned (.tuple #[.agg noFrame.toArray, .int .i64 er]) ∧ Mod (fun _ => False) w w') ∨
  ∃ f nx' p, frameS d G nx ah l = .ok (f, nx') ∧ e = .returned (.tuple #[p, .int .i64 0]) ∧ FrameMade w d f p w' ∧ DecAt w' dg d G nx' (some f) ∧ Mod (· = dg) w w'
end Go.Proofs.YteppnjgfebcmjaaGreat
