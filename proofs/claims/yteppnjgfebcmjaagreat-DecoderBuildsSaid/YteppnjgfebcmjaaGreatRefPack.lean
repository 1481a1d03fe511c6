/-
  The reference's Pack.
-/
import Derived.Test.YteppnjgfebcmjaaGreatRefBits
namespace Go.Proofs.YteppnjgfebcmjaaGreat
open Go.RowKit

/-- The number of k noughts and ones from place i on (nothing beyond the end). -/
def packV (l : List UInt8) (i : Nat) : Nat → Nat
  | 0 => 0
  | k + 1 => 2 * packV l i k + (l.getD (i + k) 0).toNat
theorem packV_lt (l : List UInt8) (i k : Nat) : packV l i k ≤ 255 * (2 ^ k - 1) := by
  induction k with
  | zero => simp [packV]
  | succ k ih =>
    have := UInt8.toNat_lt (l.getD (i + k) 0)
    have h2 : 0 < 2 ^ k := Nat.pos_of_ne_zero (by simp)
    unfold packV
    rw [Nat.pow_succ]
    omega
theorem packV_bd (l : List UInt8) (i k : Nat) (hk : k ≤ 8) : packV l i k ≤ 65025 := by
  have h := packV_lt l i k
  have h2 : 2 ^ k ≤ 2 ^ 8 := Nat.pow_le_pow_right (by omega) hk
  simp only [Nat.reducePow] at h2
  omega
def packTo (l : List UInt8) (j : Nat) : List UInt8 := (List.range j).map fun t => UInt8.ofNat (packV l (8 * t) 8)
theorem packTo_succ (l : List UInt8) (j : Nat) : packTo l (j + 1) = packTo l j ++ [UInt8.ofNat (packV l (8 * j) 8)] := by simp [packTo, List.range_succ]
theorem packTo_length (l : List UInt8) (j : Nat) : (packTo l j).length = j := by simp [packTo]
/-- Bytes of noughts and ones, filled up. -/
def packL (l : List UInt8) : List UInt8 := packTo l ((l.length + 7) / 8)
def packRel (w : World) (l : List UInt8) (v i : Value) (wr : World) : Prop :=
  ∃ j : Nat, j ≤ (l.length + 7) / 8 ∧ i = .int .i64 ((8 * j : Nat) : Int) ∧ Bytes wr w.heap.size v (packTo l j) ∧ Mod (fun _ => False) w wr
def packIn (l : List UInt8) (i : Nat) (v kv : Value) : Prop := ∃ k : Nat, k ≤ 8 ∧ kv = .int .i64 (k : Int) ∧ v = .int .u64 (packV l i k : Int)

set_option maxRecDepth 100000 in
set_option maxHeartbeats 4000000 in
theorem refPack (w : World) (A : Option Addr) (n c : Nat) (l : List UInt8) (hin : BytesIn w A n c l) (hn0 : 0 < n) (hn : n ≤ 1048576) :
    Calls Tryz.prog 52 #[.slice A n c] w fun e w' => ∃ s, e = .returned s ∧ Bytes w' w.heap.size s (packL l) ∧ Mod (fun _ => False) w w' := by
  obtain ⟨i0, hi0, hz0, hz1, hz2⟩ := info_parts u8_info
  obtain rfl : l.length = n := hin.1
  obtain ⟨b, off, rfl, hb, hc⟩ := hin.place hn0
  have HC := Lib.hid hc
  clear hc hin
  go_enter Tryz.func52, Tryz.ntmps52
  go_wp2_with fail
  go_loopw [3, 4] (packRel w l) (fun _ i _ => l.length + 8 - (intOf i).toNat)
  case atStart => exact ⟨0, by omega, rfl, World.ownsRow_nil _ _ _ _, Mod.refl _ _⟩
  case round =>
    obtain ⟨j, hj, rfl, hrow, hM⟩ := hrel
    obtain ⟨A5, c5, hv5⟩ := own_shape hrow
    subst hv5
    rw [packTo_length] at *
    have HJ : Hid (8 * j = 8 * j) := rfl
    obtain ⟨i, hi⟩ : ∃ i, i = 8 * j := ⟨_, rfl⟩
    rw [← hi]
    have HI := Lib.hid hi
    by_cases hlt : i < l.length
    · have hrow' : wr.ownsRow w.heap.size 5 1 (.slice A5 j c5) j (u8s (packTo l j)) := by
        unfold Bytes at hrow
        rwa [packTo_length] at hrow
      have HB := Lib.hid (And.intro hrow' hM)
      have hbw : b < wr.heap.size := Nat.lt_of_lt_of_le hb hM.size
      have hcell : ∀ k, k < l.length → wr.cell? ⟨b, off + k, none⟩ = some (.int .u8 ((l.getD k 0).toNat : Int)) := fun k hk => (World.cell?_of_block (hM.block b hb (fun h => h))).trans (HC.out k hk)
      have HCC := Lib.hid hcell
      have q1 : j + 1 ≤ maxLen := by unfold maxLen; omega
      have q2 : (j + 1) * 1 ≤ 140737488355328 := by omega
      have HX := Lib.hid (And.intro q1 q2)
      clear hrow hrow' hM hcell q1 q2 hi
      go_wp2_with fail
      go_loop [5, 6] (packIn l i) (fun _ k => 8 - (intOf k).toNat)
      case atStart => exact ⟨0, by omega, rfl, by simp [packV]⟩
      case round =>
        obtain ⟨k, hk, rfl, rfl⟩ := hrel
        have hbd := packV_bd l i k hk
        have HS : Hid (packV l i (k + 1) = 2 * packV l i k + (l.getD (i + k) 0).toNat) := rfl
        by_cases hk8 : k < 8
        · by_cases hin : i + k < l.length
          · have hck := HCC.out (i + k) hin
            have hx : (l.getD (i + k) 0).toNat < 256 := UInt8.toNat_lt _
            generalize (l.getD (i + k) 0).toNat = x at *
            generalize packV l i k = p at *
            obtain ⟨t, e1, e2⟩ : ∃ t : Nat, (i : Int) + (k : Int) = (t : Int) ∧ i + k = t := ⟨i + k, by omega, rfl⟩
            have i1 : (0 : Int) ≤ (t : Int) := by omega
            have i2 : (t : Int) < (l.length : Int) := by omega
            rw [e2] at hck
            clear e2
            go_wp2_with fail
            go_round
            case rel => exact ⟨k + 1, by omega, by go_num, by rw [HS.out]; go_num⟩
            case measure => simp [intOf]; omega
          · have hz : (l.getD (i + k) 0).toNat = 0 := by simp [List.getD_eq_getElem?_getD, List.getElem?_eq_none (show l.length ≤ i + k by omega)]
            rw [hz] at HS
            clear hz
            generalize packV l i k = p at *
            obtain ⟨t, e1, e2⟩ : ∃ t : Nat, (i : Int) + (k : Int) = (t : Int) ∧ i + k = t := ⟨i + k, by omega, rfl⟩
            have i2 : ¬ (t : Int) < (l.length : Int) := by omega
            clear e2
            go_wp2_with fail
            go_round
            case rel => exact ⟨k + 1, by omega, by go_num, by rw [HS.out]; go_num⟩
            case measure => simp [intOf]; omega
        · obtain rfl : k = 8 := by omega
          clear HS
          have HV : Hid (packV l i 8 = packV l (8 * j) 8) := by show _ = _; rw [HI.out]
          generalize packV l i 8 = p at *
          have e9 : (UInt8.ofNat p).toNat = p % 256 := by simp
          have HE := Lib.hid e9
          clear e9
          have HY := Lib.hid (And.intro (own_mod HB.out.1 ((Mod.refl (fun _ => False) wr).alloc (.cells #[.int .u8 ((p : Int) % 256)] 5)) (fun _ _ h => h)) (And.intro (Src.new wr 5 [.int .u8 ((p : Int) % 256)]) (show w.heap.size ≤ (wr.alloc (.cells #[.int .u8 ((p : Int) % 256)] 5)).heap.size by have := HB.out.2.size; simp; omega)))
          go_wp2_with (at_builtin; have _t := HX; refine wpList_append_src _ rfl (.tmp 34) (.tmp 37) _ rfl w.heap.size 5 i0 _ 1 1 Tryz.underlying22 hi0 hz0 hz1 hz2 rfl (by omega) (.slice A5 j c5) j (u8s (packTo l j)) rfl HY.out.1 (some ⟨wr.heap.size, 0, none⟩) 1 1 [.int .u8 ((p : Int) % 256)] rfl HY.out.2.1 (fun h => by cases h) (fun u hu => by rw [List.mem_singleton.1 hu]; rfl) HX.out.1 HX.out.2 HY.out.2.2 ?_; intro v4 w4 hown4 hg4 hat4; clear HX _t)
          have HO := Lib.hid (And.intro hown4 (And.intro hg4 hat4))
          clear hown4 hg4 hat4
          go_wp2_with fail
          go_roundw
          case rel =>
            obtain ⟨hown4, hg4, hat4⟩ := HO.out
            have Ma : Mod (fun j2 => (Value.slice A5 j c5).ownBlock = some j2) wr w4 := ((Mod.refl _ _).alloc _).grown hg4 (fun j hj => .inl hj)
            refine ⟨j + 1, by have := HI.out; omega, by have := HI.out; go_num, ?_, HB.out.2.into Ma (fun i e => .inr (HB.out.1.lt i e).1)⟩
            have e8 : u8s (packTo l (j + 1)) = u8s (packTo l j) ++ [.int .u8 ((p : Int) % 256)] := by
              rw [packTo_succ, ← HV.out]
              simp [u8s]
            unfold Bytes
            rw [e8, packTo_length]
            exact hown4
          case measure => have := HI.out; simp [intOf]; omega
    · have HF := Lib.hid (And.intro hrow hM)
      clear hrow hM
      go_wp2_with fail
      go_ret
      have hj2 : j = (l.length + 7) / 8 := by omega
      refine ⟨_, rfl, ?_, HF.out.2⟩
      have := HF.out.1
      unfold packL
      rw [← hj2]
      exact this
end Go.Proofs.YteppnjgfebcmjaaGreat
