/-
  The reference's bits: Digits, Code.
-/
import Derived.Test.YteppnjgfebcmjaaGreatM4
import Derived.Test.YteppnjgfebcmjaaGreatM0
import GoSem.Core.World
import Derived.Laws.BitsAllLaws
namespace Go.Proofs.YteppnjgfebcmjaaGreat
open Go.RowKit

/-- A number's lowest n bits, the highest first. -/
def digitsL (v : Nat) : Nat → List UInt8
  | 0 => []
  | n + 1 => UInt8.ofNat (v / 2 ^ n % 2) :: digitsL v n
theorem digitsL_length (v n : Nat) : (digitsL v n).length = n := by
  induction n with
  | zero => rfl
  | succ n ih => simp [digitsL, ih]
def digK (v n k : Nat) : List UInt8 := List.replicate (n - k) 0 ++ digitsL v k
theorem digK_length (v n k : Nat) (h : k ≤ n) : (digK v n k).length = n := by simp [digK, digitsL_length]; omega
theorem digK_set (v n k : Nat) (h : k < n) : (digK v n k).set (n - k - 1) (UInt8.ofNat (v / 2 ^ k % 2)) = digK v n (k + 1) := by
  unfold digK
  rw [List.set_append_left _ _ (by simp; omega), digitsL]
  have e : n - k = (n - (k + 1)) + 1 := by omega
  rw [e, List.replicate_succ', show n - (k + 1) + 1 - 1 = n - (k + 1) by omega, List.set_append_right _ _ (by simp)]
  simp
theorem bit_nat (x : Nat) : (UInt8.ofNat (x % 2)).toNat = x % 2 := by
  have : x % 2 < 2 := Nat.mod_lt _ (by omega)
  simp
  omega

def digRel (w : World) (ob v n : Nat) (vv iv : Value) (wr : World) : Prop :=
  ∃ k : Nat, k ≤ n ∧ vv = .int .u64 ((v / 2 ^ k : Nat) : Int) ∧ iv = .int .i64 ((n : Int) - (k : Int) - 1) ∧ Blk wr ob 5 (u8s (digK v n k)).toArray ∧ Mod (· = ob) w wr

set_option maxRecDepth 100000 in
set_option maxHeartbeats 1000000 in
theorem refDigits (w : World) (v n : Nat) (hv : v < 18446744073709551616) (hn : n ≤ 4096) : Calls Tryz.prog 50 #[.int .u64 (v : Int), .int .i64 (n : Int)] w fun e w' => ∃ s, e = .returned s ∧ Bytes w' w.heap.size s (digitsL v n) ∧ Mod (fun _ => False) w w' := by
  obtain ⟨i0, hi0, hz0, hz1, hz2⟩ := info_parts u8_info
  have x1 : i0.bytes * n ≤ 281474976710656 := by rw [hz2]; omega
  have x2 : n ≤ maxLen := by unfold maxLen; omega
  have HX := Lib.hid (And.intro x1 x2)
  clear x1 x2
  go_enter Tryz.func50, Tryz.ntmps50
  go_upto_region 2 with (with_reducible refine wpList_make_full _ rfl (.tmp 7) (.tmp 7) _ rfl w.heap.size 5 i0 (.int .u8 0) 1 Tryz.underlying22 hi0 hz0 hz1 _ _ _ _ n rfl rfl rfl rfl HX.out.1 HX.out.2 (Nat.le_refl _) ?_; intro w1 hown1 hg1; have HO := Lib.hid (And.intro hown1 hg1); clear hown1 hg1)
  have hob := (own_whole HO.out.1).1
  have m1 : Mod (fun _ => False) w w1 := (Mod.refl _ _).grown HO.out.2 (fun k hk => by cases hk)
  have hob' : Blk w1 w.heap.size 5 (u8s (digK v n 0)).toArray := by
    rw [Nat.mul_one, made_u8] at hob
    simpa [digK, digitsL] using hob
  have HI := Lib.hid (And.intro hob' m1)
  clear hob hob' m1 HO
  go_wp2_with fail
  go_loopw [0, 6] (digRel w1 w.heap.size v n) (fun _ i _ => (intOf i + 1).toNat)
  case atStart => exact ⟨0, by omega, by simp, by simp, HI.out.1, Mod.refl _ _⟩
  case round =>
    obtain ⟨k, hk, rfl, rfl, hb, hm⟩ := hrel
    by_cases hlt : k < n
    · obtain ⟨j, hj, hj2⟩ : ∃ j : Nat, (n : Int) - (k : Int) - 1 = (j : Int) ∧ n - k - 1 = j := ⟨n - k - 1, by omega, rfl⟩
      rw [hj]
      have hx : v / 2 ^ k < 18446744073709551616 := Nat.lt_of_le_of_lt (Nat.div_le_self _ _) hv
      have hset := digK_set v n k hlt
      rw [hj2] at hset
      have hdiv : v / 2 ^ (k + 1) = v / 2 ^ k / 2 := by rw [Nat.pow_succ, Nat.div_div_eq_div_mul]
      have hbit := bit_nat (v / 2 ^ k)
      have hjn : j < n := by omega
      have c1 : wr.cell? ⟨w.heap.size, j, none⟩ = some (.int .u8 (((digK v n k).getD j 0).toNat : Int)) := by
        rw [hb.cell j]; simp [u8s, List.getD_eq_getElem?_getD, digK_length v n k hk, hjn]
      have c2 := hb.frozen
      generalize hxx : v / 2 ^ k = x at *
      have HH := Lib.hid (And.intro hset (And.intro hdiv (And.intro hbit (And.intro hb (And.intro hm hj)))))
      clear hset hdiv hbit hb hm hj hxx hj2
      have i1 : (0 : Int) ≤ (j : Int) := by omega
      have i2 : (j : Int) < (n : Int) := by omega
      go_wp2_with fail
      obtain ⟨hset, hdiv, hbit, hb, hm, hj⟩ := HH.out
      refine ⟨⟨k + 1, by omega, by rw [hdiv]; simp, by congr 1; omega, ?_, hm.setCell (.inl rfl) _⟩, by simp [intOf]⟩
      refine hb.put ?_
      rw [← hset]
      have e : (x : Int) % 2 = (((UInt8.ofNat (x % 2)).toNat : Nat) : Int) := by rw [hbit]; omega
      rw [e]
      simp [u8s, List.map_set]
    · obtain rfl : k = n := by omega
      have HF := Lib.hid (And.intro hb hm)
      clear hb hm
      have hneg : (k : Int) - (k : Int) - 1 = -1 := by omega
      rw [hneg]
      go_wp2_with fail
      go_ret
      have hb := HF.out.1
      have e : digK v k k = digitsL v k := by simp [digK]
      rw [e] at hb
      have := Bytes.of_blk (B := w.heap.size) (Nat.le_refl _) hb (by rw [digitsL_length]; exact HX.out.2)
      rw [digitsL_length] at this
      exact ⟨_, rfl, this, HI.out.2.into HF.out.2 (fun i e => .inr (by omega))⟩

/-- How many bits a number has. -/
def blen (m : Nat) : Nat := if m = 0 then 0 else Nat.log2 m + 1
theorem blen_half (m : Nat) (h : 0 < m) : blen m = blen (m / 2) + 1 := by
  unfold blen
  rw [if_neg (by omega), Nat.log2_def]
  by_cases h2 : 2 ≤ m
  · rw [if_pos h2, if_neg (by omega)]
  · rw [if_neg h2, if_pos (by omega)]
theorem blen_le (m : Nat) (h : m < 18446744073709551616) : blen m ≤ 64 := by
  unfold blen
  split
  · omega
  · rename_i h0
    have := (Nat.log2_lt h0 (k := 64)).2 (by omega)
    omega
/-- A number's code, as noughts and ones. -/
def codeL (v : Nat) : List UInt8 := digitsL (v + 1) (2 * blen (v + 1) - 1)
def codeRel (v : Nat) (nv kv : Value) : Prop := ∃ t k : Nat, k ≤ v + 1 ∧ t + blen k = blen (v + 1) ∧ nv = .int .i64 (t : Int) ∧ kv = .int .u64 (k : Int)

set_option maxRecDepth 100000 in
set_option maxHeartbeats 1000000 in
theorem refCode (w : World) (v : Nat) (hv : v < 9223372036854775808) : Calls Tryz.prog 51 #[.int .u64 (v : Int)] w fun e w' => ∃ s, e = .returned s ∧ Bytes w' w.heap.size s (codeL v) ∧ Mod (fun _ => False) w w' := by
  have hbl := blen_le (v + 1) (by omega)
  have hbp : 0 < blen (v + 1) := by rw [blen_half _ (by omega)]; omega
  go_enter Tryz.func51, Tryz.ntmps51
  go_wp2_with fail
  go_loop [3, 4] (codeRel v) (fun _ k => (intOf k).toNat)
  case atStart => exact ⟨0, v + 1, by omega, by omega, rfl, by simp⟩
  case round =>
    obtain ⟨t, k, hk, ht, rfl, rfl⟩ := hrel
    by_cases hp : 0 < k
    · have hh := blen_half k hp
      have HT : Hid (t + 1 + blen (k / 2) = blen (v + 1)) := by show _ = _; omega
      have htl : t ≤ 64 := by omega
      clear ht hh
      clear hbl hbp
      go_wp2_with fail
      refine ⟨⟨t + 1, k / 2, by omega, HT.out, by go_num, by simp⟩, ?_⟩
      simp [intOf]
      omega
    · obtain rfl : k = 0 := by omega
      have ht' : t = blen (v + 1) := by simpa [blen] using ht
      have HC : Hid (codeL v = digitsL (v + 1) (2 * t - 1)) := by show _ = _; rw [ht']; rfl
      have htl : t ≤ 64 := by omega
      have htp : 0 < t := by omega
      clear ht ht' hbl hbp
      obtain ⟨n2, e1, e2⟩ : ∃ n2 : Nat, (2 : Int) * (t : Int) - 1 = (n2 : Int) ∧ 2 * t - 1 = n2 := ⟨2 * t - 1, by omega, rfl⟩
      rw [e2] at HC
      have HE := Lib.hid e2
      clear e2
      go_wp2_with fail
      have hcall := refDigits w (v + 1) n2 (by omega) (by omega)
      rw [show ((v + 1 : Nat) : Int) = (v : Int) + 1 by omega] at hcall
      refine hcall.mono ?_
      rintro e w1 ⟨s, rfl, hs, hm⟩
      obtain ⟨A1, c1, hv1⟩ := own_shape hs
      subst hv1
      have HF := Lib.hid (And.intro hs hm)
      clear hs hm hcall
      go_wp2_with fail
      go_ret
      exact ⟨_, rfl, by rw [HC.out]; exact HF.out.1, HF.out.2⟩
end Go.Proofs.YteppnjgfebcmjaaGreat

/-
  The reference's Pack.
-/
namespace Go.Proofs.YteppnjgfebcmjaaGreat
open Go.RowKit

/-- The number of k noughts and ones from place i on (nothing beyond the end). -/
def packV (l : List UInt8) (i : Nat) : Nat → Nat
  | 0 => 0
  | k + 1 => 2 * packV l i k + (l.getD (i + k) 0).toNat
theorem packV_lt (l : List UInt8) (i k : Nat) : packV l i k ≤ 255 * (2 ^ k - 1) := by
  induction k with
  | zero => simp [packV]
  | succ k ih =>
    have := UInt8.toNat_lt (l.getD (i + k) 0)
    have h2 : 0 < 2 ^ k := Nat.pos_of_ne_zero (by simp)
    unfold packV
    rw [Nat.pow_succ]
    omega
theorem packV_bd (l : List UInt8) (i k : Nat) (hk : k ≤ 8) : packV l i k ≤ 65025 := by
  have h := packV_lt l i k
  have h2 : 2 ^ k ≤ 2 ^ 8 := Nat.pow_le_pow_right (by omega) hk
  simp only [Nat.reducePow] at h2
  omega
def packTo (l : List UInt8) (j : Nat) : List UInt8 := (List.range j).map fun t => UInt8.ofNat (packV l (8 * t) 8)
theorem packTo_succ (l : List UInt8) (j : Nat) : packTo l (j + 1) = packTo l j ++ [UInt8.ofNat (packV l (8 * j) 8)] := by simp [packTo, List.range_succ]
theorem packTo_length (l : List UInt8) (j : Nat) : (packTo l j).length = j := by simp [packTo]
/-- Bytes of noughts and ones, filled up. -/
def packL (l : List UInt8) : List UInt8 := packTo l ((l.length + 7) / 8)
def packRel (w : World) (l : List UInt8) (v i : Value) (wr : World) : Prop :=
  ∃ j : Nat, j ≤ (l.length + 7) / 8 ∧ i = .int .i64 ((8 * j : Nat) : Int) ∧ Bytes wr w.heap.size v (packTo l j) ∧ Mod (fun _ => False) w wr
def packIn (l : List UInt8) (i : Nat) (v kv : Value) : Prop := ∃ k : Nat, k ≤ 8 ∧ kv = .int .i64 (k : Int) ∧ v = .int .u64 (packV l i k : Int)

set_option maxRecDepth 100000 in
set_option maxHeartbeats 4000000 in
theorem refPack (w : World) (A : Option Addr) (n c : Nat) (l : List UInt8) (hin : BytesIn w A n c l) (hn0 : 0 < n) (hn : n ≤ 1048576) :
    Calls Tryz.prog 52 #[.slice A n c] w fun e w' => ∃ s, e = .returned s ∧ Bytes w' w.heap.size s (packL l) ∧ Mod (fun _ => False) w w' := by
  obtain ⟨i0, hi0, hz0, hz1, hz2⟩ := info_parts u8_info
  obtain rfl : l.length = n := hin.1
  obtain ⟨b, off, rfl, hb, hc⟩ := hin.place hn0
  have HC := Lib.hid hc
  clear hc hin
  go_enter Tryz.func52, Tryz.ntmps52
  go_wp2_with fail
  go_loopw [3, 4] (packRel w l) (fun _ i _ => l.length + 8 - (intOf i).toNat)
  case atStart => exact ⟨0, by omega, rfl, World.ownsRow_nil _ _ _ _, Mod.refl _ _⟩
  case round =>
    obtain ⟨j, hj, rfl, hrow, hM⟩ := hrel
    obtain ⟨A5, c5, hv5⟩ := own_shape hrow
    subst hv5
    rw [packTo_length] at *
    have HJ : Hid (8 * j = 8 * j) := rfl
    obtain ⟨i, hi⟩ : ∃ i, i = 8 * j := ⟨_, rfl⟩
    rw [← hi]
    have HI := Lib.hid hi
    by_cases hlt : i < l.length
    · have hrow' : wr.ownsRow w.heap.size 5 1 (.slice A5 j c5) j (u8s (packTo l j)) := by
        unfold Bytes at hrow
        rwa [packTo_length] at hrow
      have HB := Lib.hid (And.intro hrow' hM)
      have hbw : b < wr.heap.size := Nat.lt_of_lt_of_le hb hM.size
      have hcell : ∀ k, k < l.length → wr.cell? ⟨b, off + k, none⟩ = some (.int .u8 ((l.getD k 0).toNat : Int)) := fun k hk => (World.cell?_of_block (hM.block b hb (fun h => h))).trans (HC.out k hk)
      have HCC := Lib.hid hcell
      have q1 : j + 1 ≤ maxLen := by unfold maxLen; omega
      have q2 : (j + 1) * 1 ≤ 140737488355328 := by omega
      have HX := Lib.hid (And.intro q1 q2)
      clear hrow hrow' hM hcell q1 q2 hi
      go_wp2_with fail
      go_loop [5, 6] (packIn l i) (fun _ k => 8 - (intOf k).toNat)
      case atStart => exact ⟨0, by omega, rfl, by simp [packV]⟩
      case round =>
        obtain ⟨k, hk, rfl, rfl⟩ := hrel
        have hbd := packV_bd l i k hk
        have HS : Hid (packV l i (k + 1) = 2 * packV l i k + (l.getD (i + k) 0).toNat) := rfl
        by_cases hk8 : k < 8
        · by_cases hin : i + k < l.length
          · have hck := HCC.out (i + k) hin
            have hx : (l.getD (i + k) 0).toNat < 256 := UInt8.toNat_lt _
            generalize (l.getD (i + k) 0).toNat = x at *
            generalize packV l i k = p at *
            obtain ⟨t, e1, e2⟩ : ∃ t : Nat, (i : Int) + (k : Int) = (t : Int) ∧ i + k = t := ⟨i + k, by omega, rfl⟩
            have i1 : (0 : Int) ≤ (t : Int) := by omega
            have i2 : (t : Int) < (l.length : Int) := by omega
            rw [e2] at hck
            clear e2
            go_wp2_with fail
            go_round
            case rel => exact ⟨k + 1, by omega, by go_num, by rw [HS.out]; go_num⟩
            case measure => simp [intOf]; omega
          · have hz : (l.getD (i + k) 0).toNat = 0 := by simp [List.getD_eq_getElem?_getD, List.getElem?_eq_none (show l.length ≤ i + k by omega)]
            rw [hz] at HS
            clear hz
            generalize packV l i k = p at *
            obtain ⟨t, e1, e2⟩ : ∃ t : Nat, (i : Int) + (k : Int) = (t : Int) ∧ i + k = t := ⟨i + k, by omega, rfl⟩
            have i2 : ¬ (t : Int) < (l.length : Int) := by omega
            clear e2
            go_wp2_with fail
            go_round
            case rel => exact ⟨k + 1, by omega, by go_num, by rw [HS.out]; go_num⟩
            case measure => simp [intOf]; omega
        · obtain rfl : k = 8 := by omega
          clear HS
          have HV : Hid (packV l i 8 = packV l (8 * j) 8) := by show _ = _; rw [HI.out]
          generalize packV l i 8 = p at *
          have e9 : (UInt8.ofNat p).toNat = p % 256 := by simp
          have HE := Lib.hid e9
          clear e9
          have HY := Lib.hid (And.intro (own_mod HB.out.1 ((Mod.refl (fun _ => False) wr).alloc (.cells #[.int .u8 ((p : Int) % 256)] 5)) (fun _ _ h => h)) (And.intro (Src.new wr 5 [.int .u8 ((p : Int) % 256)]) (show w.heap.size ≤ (wr.alloc (.cells #[.int .u8 ((p : Int) % 256)] 5)).heap.size by have := HB.out.2.size; simp; omega)))
          go_wp2_with (at_builtin; have _t := HX; refine wpList_append_src _ rfl (.tmp 34) (.tmp 37) _ rfl w.heap.size 5 i0 _ 1 1 Tryz.underlying22 hi0 hz0 hz1 hz2 rfl (by omega) (.slice A5 j c5) j (u8s (packTo l j)) rfl HY.out.1 (some ⟨wr.heap.size, 0, none⟩) 1 1 [.int .u8 ((p : Int) % 256)] rfl HY.out.2.1 (fun h => by cases h) (fun u hu => by rw [List.mem_singleton.1 hu]; rfl) HX.out.1 HX.out.2 HY.out.2.2 ?_; intro v4 w4 hown4 hg4 hat4; clear HX _t)
          have HO := Lib.hid (And.intro hown4 (And.intro hg4 hat4))
          clear hown4 hg4 hat4
          go_wp2_with fail
          go_roundw
          case rel =>
            obtain ⟨hown4, hg4, hat4⟩ := HO.out
            have Ma : Mod (fun j2 => (Value.slice A5 j c5).ownBlock = some j2) wr w4 := ((Mod.refl _ _).alloc _).grown hg4 (fun j hj => .inl hj)
            refine ⟨j + 1, by have := HI.out; omega, by have := HI.out; go_num, ?_, HB.out.2.into Ma (fun i e => .inr (HB.out.1.lt i e).1)⟩
            have e8 : u8s (packTo l (j + 1)) = u8s (packTo l j) ++ [.int .u8 ((p : Int) % 256)] := by
              rw [packTo_succ, ← HV.out]
              simp [u8s]
            unfold Bytes
            rw [e8, packTo_length]
            exact hown4
          case measure => have := HI.out; simp [intOf]; omega
    · have HF := Lib.hid (And.intro hrow hM)
      clear hrow hM
      go_wp2_with fail
      go_ret
      have hj2 : j = (l.length + 7) / 8 := by omega
      refine ⟨_, rfl, ?_, HF.out.2⟩
      have := HF.out.1
      unfold packL
      rw [← hj2]
      exact this
end Go.Proofs.YteppnjgfebcmjaaGreat

/-
  Bits of bytes: plain.
-/
namespace Go.Proofs.YteppnjgfebcmjaaGreat

/-- Bit i of bytes, the first one the greatest of its byte. -/
def bitAt (l : List UInt8) (i : Nat) : Nat := (l.getD (i / 8) 0).toNat / 2 ^ (7 - i % 8) % 2
/-- The number of n bits from a on. -/
def numAt (l : List UInt8) (a : Nat) : Nat → Nat
  | 0 => 0
  | n + 1 => 2 * numAt l a n + bitAt l (a + n)
theorem bitAt_lt (l : List UInt8) (i : Nat) : bitAt l i < 2 := Nat.mod_lt _ (by omega)
theorem numAt_lt (l : List UInt8) (a n : Nat) : numAt l a n < 2 ^ n := by
  induction n with
  | zero => simp [numAt]
  | succ n ih =>
    have := bitAt_lt l (a + n)
    rw [numAt, Nat.pow_succ]
    omega
theorem numAt_one (l : List UInt8) (a : Nat) : numAt l a 1 = bitAt l a := by simp [numAt]
/-- The number of a + b bits is the first's and the second's. -/
theorem numAt_add (l : List UInt8) (a m n : Nat) : numAt l a (m + n) = 2 ^ n * numAt l a m + numAt l (a + m) n := by
  induction n with
  | zero => simp [numAt]
  | succ n ih =>
    show 2 * numAt l a (m + n) + bitAt l (a + (m + n)) = _
    rw [ih, numAt, Nat.pow_succ, Nat.add_assoc a m n, Nat.mul_add]
    rw [Nat.mul_assoc, Nat.mul_comm (2 ^ n) (2 * numAt l a m), Nat.mul_assoc 2, Nat.mul_comm (numAt l a m)]
    omega

/-- A Golomb number at a, behind n noughts that were passed, among 'f' more: the number, and how many bits it has had; none: no number. -/
def gget (l : List UInt8) (a : Nat) : Nat → Nat → Option (Nat × Nat)
  | _, 0 => none
  | n, f + 1 =>
    if a + n < 8 * l.length then
      if bitAt l (a + n) = 0 then gget l a (n + 1) f
      else if a + n + 1 + n ≤ 8 * l.length then some (2 ^ n + numAt l (a + n + 1) n - 1, a + n + 1 + n) else none
    else none
end Go.Proofs.YteppnjgfebcmjaaGreat

/-
  bits.Reader: what it is in memory; Open, Left, Get, Align, Rest.
-/
namespace Go.Proofs.YteppnjgfebcmjaaGreat
open Go.RowKit

/-- Block g is a reader of the bytes l, at bit a. -/
structure ReadIs (w : World) (B g : Nat) (l : List UInt8) (a : Nat) : Prop where
  base : B ≤ g
  ex : ∃ A c, Blk w g 156 #[.slice A l.length c, .int .i64 (a : Int)] ∧ Bytes w B (.slice A l.length c) l ∧ ∃ r, A = some ⟨r, 0, none⟩
  at_ : a ≤ 8 * l.length
  few : l.length ≤ 1048576
theorem ReadIs.tmod {w w' : World} {B B' g a : Nat} {T : TypeId → Bool} {l : List UInt8} (h : ReadIs w B g l a) (hm : TMod B' T w w') (h1 : T 156 = false) (h2 : T 5 = false) : ReadIs w' B g l a := by
  obtain ⟨hb, ⟨A, c, a1, a2, a3⟩, h3, h4⟩ := h
  exact ⟨hb, ⟨A, c, a1.tmod hm h1, own_tmod a2 hm h2, a3⟩, h3, h4⟩
theorem ReadIs.quiet {w w' : World} {B g a : Nat} {l : List UInt8} (h : ReadIs w B g l a) (hm : Mod (fun _ => False) w w') : ReadIs w' B g l a := h.tmod (B' := 0) (T := fun _ => false) (.of_quiet hm) rfl rfl

theorem bitsLeft (w : World) (B g a : Nat) (l : List UInt8) (h : ReadIs w B g l a) : Calls Tryz.prog 99 #[.pointer (some ⟨g, 0, none⟩)] w fun e w' => e = .returned (.int .i64 ((8 * l.length - a : Nat) : Int)) ∧ ∃ n, w' = w.drewN n := by
  obtain ⟨_, ⟨A, c, hb, _⟩, ha, hl⟩ := h
  have e : ((8 * l.length - a : Nat) : Int) = 8 * (l.length : Int) - (a : Int) := by omega
  rw [e]
  obtain ⟨hc, hf⟩ := hb.both
  clear e hb
  go_enter Tryz.func99, Tryz.ntmps99
  go_wp2_with fail
  go_quiet (fail)
  go_wp2_with fail
  go_ret
  exact ⟨rfl, _, rfl⟩

set_option maxRecDepth 100000 in
set_option maxHeartbeats 1000000 in
theorem bitsOpen (w : World) (A : Option Addr) (n c : Nat) (l : List UInt8) (h : BytesIn w A n c l) (hn : n ≤ 1048576) :
    Calls Tryz.prog 53 #[.slice A n c] w fun e w' => ∃ g, e = .returned (.pointer (some ⟨g, 0, none⟩)) ∧ ReadIs w' w.heap.size g l 0 ∧ Mod (fun _ => False) w w' := by
  obtain ⟨i0, hi0, hz0, hz1, hz2⟩ := info_parts u8_info
  obtain rfl : l.length = n := h.1
  have HIN := Lib.hid h
  have x1 : i0.bytes * l.length ≤ 281474976710656 := by rw [hz2]; omega
  have x2 : l.length ≤ maxLen := by unfold maxLen; omega
  have HX := Lib.hid (And.intro x1 x2)
  clear h x1 x2
  go_enter Tryz.func53, Tryz.ntmps53
  go_upto_region 2 with (with_reducible refine wpList_make_full _ rfl (.tmp 5) (.tmp 5) _ rfl w.heap.size 5 i0 (.int .u8 0) 1 Tryz.underlying22 hi0 hz0 hz1 _ _ _ _ l.length rfl rfl rfl rfl HX.out.1 HX.out.2 (Nat.le_refl _) ?_; intro w1 hown1 hg1; have HO := Lib.hid (And.intro hown1 hg1); clear hown1 hg1)
  obtain ⟨g, hg⟩ : ∃ g, g = w1.heap.size := ⟨_, rfl⟩
  have hbx : Blk (w1.alloc (.cells #[.slice (some ⟨w.heap.size, 0, none⟩) l.length l.length, .int .i64 0] 156)) w1.heap.size 156 #[.slice (some ⟨w.heap.size, 0, none⟩) l.length l.length, .int .i64 0] := Blk.new _ _ _
  have hrow := own_mod HO.out.1 ((Mod.refl (fun _ => False) w1).alloc (.cells #[.slice (some ⟨w.heap.size, 0, none⟩) l.length l.length, .int .i64 0] 156)) (fun _ _ h => h)
  have hM : Mod (fun _ => False) w (w1.alloc (.cells #[.slice (some ⟨w.heap.size, 0, none⟩) l.length l.length, .int .i64 0] 156)) := ((Mod.refl _ _).grown HO.out.2 (fun k hk => by cases hk)).alloc _
  rw [← hg] at hbx ⊢
  generalize w1.alloc (.cells #[.slice (some ⟨w.heap.size, 0, none⟩) l.length l.length, .int .i64 0] 156) = w2 at *
  have hne : w.heap.size ≠ g := by
    have := hbx.ne_ (own_whole hrow).1 (by decide)
    omega
  have hBg : w.heap.size ≤ g := by rw [hg]; exact ((Mod.refl (fun _ => False) _).grown HO.out.2 (fun k hk => by cases hk)).size
  obtain ⟨hc, hf⟩ := hbx.both
  have hsrc := (HIN.out.quiet hM).2.2.1
  have HR := Lib.hid (And.intro hrow (And.intro hbx (And.intro hM hsrc)))
  have HF : Hid (0 + l.length ≤ (madeCells (Value.cells (.int .u8 0)) (l.length * 1)).toList.length) := by show _ ≤ _; simp [size_madeCells]
  clear hrow hbx hM hsrc hg HO
  go_wp2_with (with_reducible refine wpList_copy_blk rfl (.tmp 12) (.tmp 13) _ _ rfl 5 Tryz.underlying22 (by kernel_rfl) (some ⟨w.heap.size, 0, none⟩) l.length l.length A l.length c (u8s l) rfl rfl HR.out.2.2.2 w.heap.size 0 _ 5 (own_whole HR.out.1).1 l.length (Nat.min_self _).symm (fun _ => rfl) HF.out (u8s_one l) ?_; intro w3 hb3 hm3; have HB := Lib.hid (And.intro hb3 hm3); clear hb3 hm3)
  go_ret
  have hl : splice (madeCells (Value.cells (.int .u8 0)) (l.length * 1)).toList 0 ((u8s l).take l.length) = u8s l := by
    rw [List.take_of_length_le (by simp [u8s])]
    simp [splice, u8s, size_madeCells]
  obtain ⟨hb3, hm3⟩ := HB.out
  rw [hl] at hb3
  refine ⟨g, rfl, ⟨hBg, ⟨_, _, HR.out.2.1.keep hm3 (fun e => hne e.symm), Bytes.of_blk (Nat.le_refl _) hb3 HX.out.2, _, rfl⟩, by omega, hn⟩, ?_⟩
  exact HR.out.2.2.1.into hm3 (fun i e => .inr (by omega))
end Go.Proofs.YteppnjgfebcmjaaGreat

/-
  bits.Reader.Get.
-/
namespace Go.Proofs.YteppnjgfebcmjaaGreat
open Go.RowKit

set_option maxHeartbeats 1000000 in
theorem bitsGet_short (w : World) (B g a n : Nat) (l : List UInt8) (h : ReadIs w B g l a) (hn : n ≤ 64) (hs : 8 * l.length < a + n) :
    Calls Tryz.prog 55 #[.pointer (some ⟨g, 0, none⟩), .int .i64 (n : Int)] w fun e w' => e = .returned (.tuple #[.int .u64 0, .int .i64 11]) ∧ ∃ m, w' = w.drewN m := by
  have hat := h.at_
  go_enter Tryz.func55, Tryz.ntmps55
  go_wp2_with fail
  refine (bitsLeft w B g a l h).mono ?_
  rintro e w1 ⟨rfl, m, rfl⟩
  go_wp2_with fail
  go_ret2
  exact ⟨rfl, m, rfl⟩

theorem bit_step (V x s : Nat) (hV : V < 2 ^ 63) (hx : x < 256) : bits BinOp.or IntKind.u64 (IntKind.u64.wrap ((V : Int) * 2)) (IntKind.u64.wrap (bits BinOp.and IntKind.u8 ((x : Int) / 2 ^ s) 1)) = ((2 * V + x / 2 ^ s % 2 : Nat) : Int) := by
  have hq : x / 2 ^ s < 256 := Nat.lt_of_le_of_lt (Nat.div_le_self _ _) hx
  have e1 : (x : Int) / 2 ^ s = ((x / 2 ^ s : Nat) : Int) := by rw [Int.natCast_ediv, Int.natCast_pow]; rfl
  have e2 : bits BinOp.and IntKind.u8 ((x / 2 ^ s : Nat) : Int) 1 = ((x / 2 ^ s % 2 : Nat) : Int) := by
    have := u8_and_nat (x / 2 ^ s) 1 hq (by omega)
    rw [Nat.and_one_is_mod] at this
    exact this
  have hb : x / 2 ^ s % 2 < 2 := Nat.mod_lt _ (by omega)
  have e3 : IntKind.u64.wrap ((V : Int) * 2) = ((2 * V : Nat) : Int) := by rw [IntKind.wrap_u64]; omega
  have e4 : IntKind.u64.wrap ((x / 2 ^ s % 2 : Nat) : Int) = ((x / 2 ^ s % 2 : Nat) : Int) := by rw [IntKind.wrap_u64]; omega
  rw [e1, e2, e3, e4, u64_or_nat _ _ (by omega) (by omega)]
  have := Nat.two_pow_add_eq_or_of_lt (i := 1) (show x / 2 ^ s % 2 < 2 ^ 1 by omega) V
  rw [Nat.pow_one] at this
  rw [← this]
theorem numAt_63 (l : List UInt8) (a k n : Nat) (hk : k < n) (hn : n ≤ 64) : numAt l a k < 2 ^ 63 := Nat.lt_of_lt_of_le (numAt_lt l a k) (Nat.pow_le_pow_right (by omega) (by omega))

def GetRel (w : World) (g n a : Nat) (A : Option Addr) (c : Nat) (l : List UInt8) (v i : Value) (wr : World) : Prop :=
  ∃ k : Nat, k ≤ n ∧ i = .int .i64 k ∧ v = .int .u64 ((numAt l a k : Nat) : Int) ∧ Blk wr g 156 #[.slice A l.length c, .int .i64 ((a + k : Nat) : Int)] ∧ Mod (· = g) w wr

set_option maxHeartbeats 2000000 in
theorem bitsGet (w : World) (B g a n : Nat) (l : List UInt8) (h : ReadIs w B g l a) (hn : n ≤ 64) (hs : a + n ≤ 8 * l.length) :
    Calls Tryz.prog 55 #[.pointer (some ⟨g, 0, none⟩), .int .i64 (n : Int)] w fun e w' => e = .returned (.tuple #[.int .u64 ((numAt l a n : Nat) : Int), .int .i64 0]) ∧ ReadIs w' B g l (a + n) ∧ Mod (· = g) w w' := by
  have hleft := bitsLeft w B g a l h
  obtain ⟨hB, ⟨A, c, hb, hby, hsm⟩, hat, hfew⟩ := h
  have HSM := Lib.hid hsm
  clear hsm
  have HB := Lib.hid (And.intro hb hby)
  have hl := hb.lt
  clear hb hby
  go_enter Tryz.func55, Tryz.ntmps55
  go_wp2_with fail
  refine hleft.mono ?_
  rintro e w1 ⟨rfl, m, rfl⟩
  have hb1 := HB.out.1.drewN m
  have M1 : Mod (· = g) w (w.drewN m) := (Mod.refl _ _).drewN _
  clear hleft
  generalize w.drewN m = w1 at *
  go_wp2_with fail
  go_loopw [6, 22] (GetRel w g n a A c l) (fun _ i _ => n - (intOf i).toNat)
  case atStart => exact ⟨0, by omega, rfl, rfl, hb1, M1⟩
  case round =>
    clear hb1 M1
    obtain ⟨k, hk, rfl, rfl, hbk, hM⟩ := hrel
    by_cases hlt : k < n
    · have hlen : 0 < l.length := by omega
      obtain ⟨r, hr, _⟩ := HB.out.2.some_ hlen
      subst hr
      have hrg : ¬ r = g := by
        obtain ⟨_, cs, h2⟩ := own_blk HB.out.2 (k := r) rfl
        exact h2.ne_ HB.out.1 (by decide)
      have hq : (a + k) / 8 < l.length := by omega
      have hcell := (own_mod HB.out.2 hM (fun j hj e => hrg (by
        have : r = j := by simpa [Value.ownBlock] using hj
        omega)))
      have hcl : wr.cell? ⟨r, (a + k) / 8, none⟩ = some (.int .u8 ((l.getD ((a + k) / 8) 0).toNat : Int)) := Bytes.cell hcell _ hq
      have hx : (l.getD ((a + k) / 8) 0).toNat < 256 := UInt8.toNat_lt _
      obtain ⟨x, hxe⟩ : ∃ x, x = (l.getD ((a + k) / 8) 0).toNat := ⟨_, rfl⟩
      rw [← hxe] at hcl hx
      have HE : Hid ((l.getD ((a + k) / 8) 0).toNat = x) := hxe.symm
      clear hxe
      have hv := numAt_lt l a k
      obtain ⟨hc, hf⟩ := hbk.both
      have HK := Lib.hid hbk
      clear hbk
      have i1 : (0 : Int) ≤ ((a + k : Nat) : Int) / 8 := by omega
      have i2 : ((a + k : Nat) : Int) / 8 < (l.length : Int) := by omega
      have i3 : (0 : Int) ≤ ((a + k : Nat) : Int) := by omega
      clear hcell
      go_wp2_with fail
      go_quiet (fail)
      go_wp2_with fail
      go_roundw
      case rel =>
        rw [bit_step _ _ _ (numAt_63 l a k n hlt hn) hx]
        refine ⟨k + 1, by omega, by go_num, by rw [numAt, bitAt, HE.out], (HK.out.drewN nq).put (by simp; omega), ?_⟩
        exact (hM.drewN nq).setCell (.inl rfl) _
      case measure => simp [intOf]; omega
    · obtain rfl : k = n := by omega
      have HF := Lib.hid (And.intro hbk hM)
      clear hbk hM
      go_wp2_with fail
      go_ret2
      obtain ⟨hbk, hM⟩ := HF.out
      refine ⟨rfl, ⟨hB, ⟨A, c, hbk, own_mod HB.out.2 hM (fun j hj e => ?_), HSM.out⟩, hs, hfew⟩, hM⟩
      exact own_ne_blk HB.out.2 HB.out.1 (by decide) (by rw [hj, e])
end Go.Proofs.YteppnjgfebcmjaaGreat
