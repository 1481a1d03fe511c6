/-
  bits.Reader.Get.
-/
import Derived.Test.YteppnjgfebcmjaaGreatBits
import Derived.Laws.BitsAllLaws
namespace Go.Proofs.YteppnjgfebcmjaaGreat
open Go.RowKit

set_option maxHeartbeats 1000000 in
theorem bitsGet_short (w : World) (B g a n : Nat) (l : List UInt8) (h : ReadIs w B g l a) (hn : n ≤ 64) (hs : 8 * l.length < a + n) :
    Calls Tryz.prog 55 #[.pointer (some ⟨g, 0, none⟩), .int .i64 (n : Int)] w fun e w' => e = .returned (.tuple #[.int .u64 0, .int .i64 11]) ∧ ∃ m, w' = w.drewN m := by
  have hat := h.at_
  go_enter Tryz.func55, Tryz.ntmps55
  go_wp2_with fail
  refine (bitsLeft w B g a l h).mono ?_
  rintro e w1 ⟨rfl, m, rfl⟩
  go_wp2_with fail
  go_ret2
  exact ⟨rfl, m, rfl⟩

theorem bit_step (V x s : Nat) (hV : V < 2 ^ 63) (hx : x < 256) : bits BinOp.or IntKind.u64 (IntKind.u64.wrap ((V : Int) * 2)) (IntKind.u64.wrap (bits BinOp.and IntKind.u8 ((x : Int) / 2 ^ s) 1)) = ((2 * V + x / 2 ^ s % 2 : Nat) : Int) := by
  have hq : x / 2 ^ s < 256 := Nat.lt_of_le_of_lt (Nat.div_le_self _ _) hx
  have e1 : (x : Int) / 2 ^ s = ((x / 2 ^ s : Nat) : Int) := by rw [Int.natCast_ediv, Int.natCast_pow]; rfl
  have e2 : bits BinOp.and IntKind.u8 ((x / 2 ^ s : Nat) : Int) 1 = ((x / 2 ^ s % 2 : Nat) : Int) := by
    have := u8_and_nat (x / 2 ^ s) 1 hq (by omega)
    rw [Nat.and_one_is_mod] at this
    exact this
  have hb : x / 2 ^ s % 2 < 2 := Nat.mod_lt _ (by omega)
  have e3 : IntKind.u64.wrap ((V : Int) * 2) = ((2 * V : Nat) : Int) := by rw [IntKind.wrap_u64]; omega
  have e4 : IntKind.u64.wrap ((x / 2 ^ s % 2 : Nat) : Int) = ((x / 2 ^ s % 2 : Nat) : Int) := by rw [IntKind.wrap_u64]; omega
  rw [e1, e2, e3, e4, u64_or_nat _ _ (by omega) (by omega)]
  have := Nat.two_pow_add_eq_or_of_lt (i := 1) (show x / 2 ^ s % 2 < 2 ^ 1 by omega) V
  rw [Nat.pow_one] at this
  rw [← this]
theorem numAt_63 (l : List UInt8) (a k n : Nat) (hk : k < n) (hn : n ≤ 64) : numAt l a k < 2 ^ 63 := Nat.lt_of_lt_of_le (numAt_lt l a k) (Nat.pow_le_pow_right (by omega) (by omega))

def GetRel (w : World) (g n a : Nat) (A : Option Addr) (c : Nat) (l : List UInt8) (v i : Value) (wr : World) : Prop :=
  ∃ k : Nat, k ≤ n ∧ i = .int .i64 k ∧ v = .int .u64 ((numAt l a k : Nat) : Int) ∧ Blk wr g 156 #[.slice A l.length c, .int .i64 ((a + k : Nat) : Int)] ∧ Mod (· = g) w wr

set_option maxHeartbeats 2000000 in
theorem bitsGet (w : World) (B g a n : Nat) (l : List UInt8) (h : ReadIs w B g l a) (hn : n ≤ 64) (hs : a + n ≤ 8 * l.length) :
    Calls Tryz.prog 55 #[.pointer (some ⟨g, 0, none⟩), .int .i64 (n : Int)] w fun e w' => e = .returned (.tuple #[.int .u64 ((numAt l a n : Nat) : Int), .int .i64 0]) ∧ ReadIs w' B g l (a + n) ∧ Mod (· = g) w w' := by
  have hleft := bitsLeft w B g a l h
  obtain ⟨hB, ⟨A, c, hb, hby, hsm⟩, hat, hfew⟩ := h
  have HSM := Lib.hid hsm
  clear hsm
  have HB := Lib.hid (And.intro hb hby)
  have hl := hb.lt
  clear hb hby
  go_enter Tryz.func55, Tryz.ntmps55
  go_wp2_with fail
  refine hleft.mono ?_
  rintro e w1 ⟨rfl, m, rfl⟩
  have hb1 := HB.out.1.drewN m
  have M1 : Mod (· = g) w (w.drewN m) := (Mod.refl _ _).drewN _
  clear hleft
  generalize w.drewN m = w1 at *
  go_wp2_with fail
  go_loopw [6, 22] (GetRel w g n a A c l) (fun _ i _ => n - (intOf i).toNat)
  case atStart => exact ⟨0, by omega, rfl, rfl, hb1, M1⟩
  case round =>
    clear hb1 M1
    obtain ⟨k, hk, rfl, rfl, hbk, hM⟩ := hrel
    by_cases hlt : k < n
    · have hlen : 0 < l.length := by omega
      obtain ⟨r, hr, _⟩ := HB.out.2.some_ hlen
      subst hr
      have hrg : ¬ r = g := by
        obtain ⟨_, cs, h2⟩ := own_blk HB.out.2 (k := r) rfl
        exact h2.ne_ HB.out.1 (by decide)
      have hq : (a + k) / 8 < l.length := by omega
      have hcell := (own_mod HB.out.2 hM (fun j hj e => hrg (by
        have : r = j := by simpa [Value.ownBlock] using hj
        omega)))
      have hcl : wr.cell? ⟨r, (a + k) / 8, none⟩ = some (.int .u8 ((l.getD ((a + k) / 8) 0).toNat : Int)) := Bytes.cell hcell _ hq
      have hx : (l.getD ((a + k) / 8) 0).toNat < 256 := UInt8.toNat_lt _
      obtain ⟨x, hxe⟩ : ∃ x, x = (l.getD ((a + k) / 8) 0).toNat := ⟨_, rfl⟩
      rw [← hxe] at hcl hx
      have HE : Hid ((l.getD ((a + k) / 8) 0).toNat = x) := hxe.symm
      clear hxe
      have hv := numAt_lt l a k
      obtain ⟨hc, hf⟩ := hbk.both
      have HK := Lib.hid hbk
      clear hbk
      have i1 : (0 : Int) ≤ ((a + k : Nat) : Int) / 8 := by omega
      have i2 : ((a + k : Nat) : Int) / 8 < (l.length : Int) := by omega
      have i3 : (0 : Int) ≤ ((a + k : Nat) : Int) := by omega
      clear hcell
      go_wp2_with fail
      go_quiet (fail)
      go_wp2_with fail
      go_roundw
      case rel =>
        rw [bit_step _ _ _ (numAt_63 l a k n hlt hn) hx]
        refine ⟨k + 1, by omega, by go_num, by rw [numAt, bitAt, HE.out], (HK.out.drewN nq).put (by simp; omega), ?_⟩
        exact (hM.drewN nq).setCell (.inl rfl) _
      case measure => simp [intOf]; omega
    · obtain rfl : k = n := by omega
      have HF := Lib.hid (And.intro hbk hM)
      clear hbk hM
      go_wp2_with fail
      go_ret2
      obtain ⟨hbk, hM⟩ := HF.out
      refine ⟨rfl, ⟨hB, ⟨A, c, hbk, own_mod HB.out.2 hM (fun j hj e => ?_), HSM.out⟩, hs, hfew⟩, hM⟩
      exact own_ne_blk HB.out.2 HB.out.1 (by decide) (by rw [hj, e])
end Go.Proofs.YteppnjgfebcmjaaGreat
