/-
  The reference's bits: Digits, Code.
-/
import Derived.Test.YteppnjgfebcmjaaGreatLiftBack
namespace Go.Proofs.YteppnjgfebcmjaaGreat
open Go.RowKit

/-- A number's lowest n bits, the highest first. -/
def digitsL (v : Nat) : Nat → List UInt8
  | 0 => []
  | n + 1 => UInt8.ofNat (v / 2 ^ n % 2) :: digitsL v n
theorem digitsL_length (v n : Nat) : (digitsL v n).length = n := by
  induction n with
  | zero => rfl
  | succ n ih => simp [digitsL, ih]
def digK (v n k : Nat) : List UInt8 := List.replicate (n - k) 0 ++ digitsL v k
theorem digK_length (v n k : Nat) (h : k ≤ n) : (digK v n k).length = n := by simp [digK, digitsL_length]; omega
theorem digK_set (v n k : Nat) (h : k < n) : (digK v n k).set (n - k - 1) (UInt8.ofNat (v / 2 ^ k % 2)) = digK v n (k + 1) := by
  unfold digK
  rw [List.set_append_left _ _ (by simp; omega), digitsL]
  have e : n - k = (n - (k + 1)) + 1 := by omega
  rw [e, List.replicate_succ', show n - (k + 1) + 1 - 1 = n - (k + 1) by omega, List.set_append_right _ _ (by simp)]
  simp
theorem bit_nat (x : Nat) : (UInt8.ofNat (x % 2)).toNat = x % 2 := by
  have : x % 2 < 2 := Nat.mod_lt _ (by omega)
  simp
  omega

def digRel (w : World) (ob v n : Nat) (vv iv : Value) (wr : World) : Prop :=
  ∃ k : Nat, k ≤ n ∧ vv = .int .u64 ((v / 2 ^ k : Nat) : Int) ∧ iv = .int .i64 ((n : Int) - (k : Int) - 1) ∧ Blk wr ob 5 (u8s (digK v n k)).toArray ∧ Mod (· = ob) w wr

set_option maxRecDepth 100000 in
set_option maxHeartbeats 1000000 in
theorem refDigits (w : World) (v n : Nat) (hv : v < 18446744073709551616) (hn : n ≤ 4096) : Calls Tryz.prog 50 #[.int .u64 (v : Int), .int .i64 (n : Int)] w fun e w' => ∃ s, e = .returned s ∧ Bytes w' w.heap.size s (digitsL v n) ∧ Mod (fun _ => False) w w' := by
  obtain ⟨i0, hi0, hz0, hz1, hz2⟩ := info_parts u8_info
  have x1 : i0.bytes * n ≤ 281474976710656 := by rw [hz2]; omega
  have x2 : n ≤ maxLen := by unfold maxLen; omega
  have HX := Lib.hid (And.intro x1 x2)
  clear x1 x2
  go_enter Tryz.func50, Tryz.ntmps50
  go_upto_region 2 with (with_reducible refine wpList_make_full _ rfl (.tmp 7) (.tmp 7) _ rfl w.heap.size 5 i0 (.int .u8 0) 1 Tryz.underlying22 hi0 hz0 hz1 _ _ _ _ n rfl rfl rfl rfl HX.out.1 HX.out.2 (Nat.le_refl _) ?_; intro w1 hown1 hg1; have HO := Lib.hid (And.intro hown1 hg1); clear hown1 hg1)
  have hob := (own_whole HO.out.1).1
  have m1 : Mod (fun _ => False) w w1 := (Mod.refl _ _).grown HO.out.2 (fun k hk => by cases hk)
  have hob' : Blk w1 w.heap.size 5 (u8s (digK v n 0)).toArray := by
    rw [Nat.mul_one, made_u8] at hob
    simpa [digK, digitsL] using hob
  have HI := Lib.hid (And.intro hob' m1)
  clear hob hob' m1 HO
  go_wp2_with fail
  go_loopw [0, 6] (digRel w1 w.heap.size v n) (fun _ i _ => (intOf i + 1).toNat)
  case atStart => exact ⟨0, by omega, by simp, by simp, HI.out.1, Mod.refl _ _⟩
  case round =>
    obtain ⟨k, hk, rfl, rfl, hb, hm⟩ := hrel
    by_cases hlt : k < n
    · obtain ⟨j, hj, hj2⟩ : ∃ j : Nat, (n : Int) - (k : Int) - 1 = (j : Int) ∧ n - k - 1 = j := ⟨n - k - 1, by omega, rfl⟩
      rw [hj]
      have hx : v / 2 ^ k < 18446744073709551616 := Nat.lt_of_le_of_lt (Nat.div_le_self _ _) hv
      have hset := digK_set v n k hlt
      rw [hj2] at hset
      have hdiv : v / 2 ^ (k + 1) = v / 2 ^ k / 2 := by rw [Nat.pow_succ, Nat.div_div_eq_div_mul]
      have hbit := bit_nat (v / 2 ^ k)
      have hjn : j < n := by omega
      have c1 : wr.cell? ⟨w.heap.size, j, none⟩ = some (.int .u8 (((digK v n k).getD j 0).toNat : Int)) := by
        rw [hb.cell j]; simp [u8s, List.getD_eq_getElem?_getD, digK_length v n k hk, hjn]
      have c2 := hb.frozen
      generalize hxx : v / 2 ^ k = x at *
      have HH := Lib.hid (And.intro hset (And.intro hdiv (And.intro hbit (And.intro hb (And.intro hm hj)))))
      clear hset hdiv hbit hb hm hj hxx hj2
      have i1 : (0 : Int) ≤ (j : Int) := by omega
      have i2 : (j : Int) < (n : Int) := by omega
      go_wp2_with fail
      obtain ⟨hset, hdiv, hbit, hb, hm, hj⟩ := HH.out
      refine ⟨⟨k + 1, by omega, by rw [hdiv]; simp, by congr 1; omega, ?_, hm.setCell (.inl rfl) _⟩, by simp [intOf]⟩
      refine hb.put ?_
      rw [← hset]
      have e : (x : Int) % 2 = (((UInt8.ofNat (x % 2)).toNat : Nat) : Int) := by rw [hbit]; omega
      rw [e]
      simp [u8s, List.map_set]
    · obtain rfl : k = n := by omega
      have HF := Lib.hid (And.intro hb hm)
      clear hb hm
      have hneg : (k : Int) - (k : Int) - 1 = -1 := by omega
      rw [hneg]
      go_wp2_with fail
      go_ret
      have hb := HF.out.1
      have e : digK v k k = digitsL v k := by simp [digK]
      rw [e] at hb
      have := Bytes.of_blk (B := w.heap.size) (Nat.le_refl _) hb (by rw [digitsL_length]; exact HX.out.2)
      rw [digitsL_length] at this
      exact ⟨_, rfl, this, HI.out.2.into HF.out.2 (fun i e => .inr (by omega))⟩

/-- How many bits a number has. -/
def blen (m : Nat) : Nat := if m = 0 then 0 else Nat.log2 m + 1
theorem blen_half (m : Nat) (h : 0 < m) : blen m = blen (m / 2) + 1 := by
  unfold blen
  rw [if_neg (by omega), Nat.log2_def]
  by_cases h2 : 2 ≤ m
  · rw [if_pos h2, if_neg (by omega)]
  · rw [if_neg h2, if_pos (by omega)]
theorem blen_le (m : Nat) (h : m < 18446744073709551616) : blen m ≤ 64 := by
  unfold blen
  split
  · omega
  · rename_i h0
    have := (Nat.log2_lt h0 (k := 64)).2 (by omega)
    omega
/-- A number's code, as noughts and ones. -/
def codeL (v : Nat) : List UInt8 := digitsL (v + 1) (2 * blen (v + 1) - 1)
def codeRel (v : Nat) (nv kv : Value) : Prop := ∃ t k : Nat, k ≤ v + 1 ∧ t + blen k = blen (v + 1) ∧ nv = .int .i64 (t : Int) ∧ kv = .int .u64 (k : Int)

set_option maxRecDepth 100000 in
set_option maxHeartbeats 1000000 in
theorem refCode (w : World) (v : Nat) (hv : v < 9223372036854775808) : Calls Tryz.prog 51 #[.int .u64 (v : Int)] w fun e w' => ∃ s, e = .returned s ∧ Bytes w' w.heap.size s (codeL v) ∧ Mod (fun _ => False) w w' := by
  have hbl := blen_le (v + 1) (by omega)
  have hbp : 0 < blen (v + 1) := by rw [blen_half _ (by omega)]; omega
  go_enter Tryz.func51, Tryz.ntmps51
  go_wp2_with fail
  go_loop [3, 4] (codeRel v) (fun _ k => (intOf k).toNat)
  case atStart => exact ⟨0, v + 1, by omega, by omega, rfl, by simp⟩
  case round =>
    obtain ⟨t, k, hk, ht, rfl, rfl⟩ := hrel
    by_cases hp : 0 < k
    · have hh := blen_half k hp
      have HT : Hid (t + 1 + blen (k / 2) = blen (v + 1)) := by show _ = _; omega
      have htl : t ≤ 64 := by omega
      clear ht hh
      clear hbl hbp
      go_wp2_with fail
      refine ⟨⟨t + 1, k / 2, by omega, HT.out, by go_num, by simp⟩, ?_⟩
      simp [intOf]
      omega
    · obtain rfl : k = 0 := by omega
      have ht' : t = blen (v + 1) := by simpa [blen] using ht
      have HC : Hid (codeL v = digitsL (v + 1) (2 * t - 1)) := by show _ = _; rw [ht']; rfl
      have htl : t ≤ 64 := by omega
      have htp : 0 < t := by omega
      clear ht ht' hbl hbp
      obtain ⟨n2, e1, e2⟩ : ∃ n2 : Nat, (2 : Int) * (t : Int) - 1 = (n2 : Int) ∧ 2 * t - 1 = n2 := ⟨2 * t - 1, by omega, rfl⟩
      rw [e2] at HC
      have HE := Lib.hid e2
      clear e2
      go_wp2_with fail
      have hcall := refDigits w (v + 1) n2 (by omega) (by omega)
      rw [show ((v + 1 : Nat) : Int) = (v : Int) + 1 by omega] at hcall
      refine hcall.mono ?_
      rintro e w1 ⟨s, rfl, hs, hm⟩
      obtain ⟨A1, c1, hv1⟩ := own_shape hs
      subst hv1
      have HF := Lib.hid (And.intro hs hm)
      clear hs hm hcall
      go_wp2_with fail
      go_ret
      exact ⟨_, rfl, by rw [HC.out]; exact HF.out.1, HF.out.2⟩
end Go.Proofs.YteppnjgfebcmjaaGreat
