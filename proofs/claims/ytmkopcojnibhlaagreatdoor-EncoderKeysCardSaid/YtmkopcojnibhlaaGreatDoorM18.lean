/-
  decoder: a block of any plane, its guess by its square's kind.
-/
import Derived.Test.YtmkopcojnibhlaaGreatDoorM17
import Derived.Test.YtmkopcojnibhlaaGreatDoorM1
import GoSem.Core.World
import Derived.Laws.BitsAllLaws
namespace Go.Proofs.YtmkopcojnibhlaaGreatDoor
open Go.RowKit

/-- What a block's guess is. -/
def gof (kind : Int) (W H : Nat) (pix apix : List UInt8) (x y pl : Nat) (vx vy : Int) (s : St) : Option (List UInt8 × St) :=
  if kind = 2 then sguess W pix x y s else some (smoved W H apix x y pl vx vy, s)
theorem dBlockAt (w : World) (bk g rb fr dg : Nat) (P : Nat → Prop) (hPg : ¬ P g) (hPb : ¬ P bk) (hPw : ∀ j, P j → j < w.heap.size) (hgb : g ≠ bk) (K : Bool) (N Q : Int) (s : St) (h : SAt w bk g P s)
    (hr : Blk w rb 217 (rdV K N Q bk g fr dg)) (hrg : rb ≠ g) (hrb : rb ≠ bk) (kind : Int)
    (W H n gq fo pl : Nat) (pix : List UInt8) (hsd : sidesB W H = true) (hn : n = W * H) (fc : Array Value) (hf : Blk w fr 40 fc) (hf0 : fc[fo]? = some (.int .i64 (W : Int))) (hf1 : fc[fo + 1]? = some (.int .i64 (H : Int))) (hf2 : fc[fo + 2]? = some (.slice (some ⟨gq, 0, none⟩) n n))
    (hpl : pl < 3) (hro : (rdV K N Q bk g fr dg)[5 + pl]? = some (.pointer (some ⟨fr, fo, none⟩)))
    (hq : Blk w gq 5 (u8s pix).toArray) (hql : pix.length = n) (hPq : ¬ P gq) (a1 : fr ≠ g) (a2 : fr ≠ bk) (a3 : gq ≠ g) (a4 : gq ≠ bk) (a5 : rb ≠ fr) (a6 : rb ≠ gq) (a7 : fr ≠ gq)
    (apix : List UInt8) (dc : Array Value) (aq ao : Nat) (hro2 : (rdV K N Q bk g fr dg)[8 + pl]? = some (.pointer (some ⟨dg, ao, none⟩)))
    (hA : kind ≠ 2 → Blk w dg 136 dc ∧ Blk w aq 5 (u8s apix).toArray ∧ dc[ao]? = some (.int .i64 (W : Int)) ∧ dc[ao + 1]? = some (.int .i64 (H : Int)) ∧ dc[ao + 2]? = some (.slice (some ⟨aq, 0, none⟩) n n) ∧ apix.length = n ∧ rb ≠ dg ∧ rb ≠ aq ∧ dg ≠ aq)
    (x y : Nat) (hx : x + 8 ≤ W) (hy : y + 8 ≤ H) (vx vy : Int) (hvx : -128 ≤ vx ∧ vx ≤ 128) (hvy : -128 ≤ vy ∧ vy ≤ 128) :
    Calls Tryz.prog 188 #[.pointer (some ⟨rb, 0, none⟩), .int .i64 kind, .agg #[.int .i64 (pl : Int), .int .i64 (x : Int), .int .i64 (y : Int)], .agg #[.int .i64 vx, .int .i64 vy]] w (BKPost w bk g gq P W x y pix (sblk (gof kind W H pix apix x y pl vx vy s) kind pl Q)) := by
  refine dBlock w bk g rb fr dg P hPg hPb hPw hgb K N Q s h hr hrg hrb kind W H n gq fo pl pix hsd hn fc hf hf0 hf2 hpl hro hq hql hPq a1 a2 a3 a4 a5 a6 a7 x y hx hy vx vy _ fun w1 hm => ?_
  have h1 := h.mod hm (fun h => h) (fun h => h) (fun _ _ h => h)
  have hr1 := hr.keep hm (fun h => h)
  have hP1 : ∀ j, P j → j < w1.heap.size := fun j hj => Nat.lt_of_lt_of_le (hPw j hj) hm.size
  unfold gof
  by_cases hk : kind = 2
  · rw [if_pos hk, hk]
    exact gOwn w1 bk g rb fr dg P hPg hPb hP1 hgb K N Q s h1 hr1 hrg hrb W H n gq fo pl pix hsd hn fc (hf.keep hm (fun h => h)) hf0 hf1 hf2 hpl hro (hq.keep hm (fun h => h)) hql a1 a2 a3 a4 a5 a6 a7 x y hx hy vx vy
  · obtain ⟨b1, b2, b3, b4, b5, b6, b7, b8, b9⟩ := hA hk
    rw [if_neg hk]
    exact gMoved w1 bk g rb fr dg P K N Q s h1 hP1 hr1 kind (by simpa using hk) W H n aq ao pl apix hsd hn dc (b1.keep hm (fun h => h)) b3 b4 b5 hpl hro2 (b2.keep hm (fun h => h)) b6 b7 b8 b9 x y hx hy vx vy hvx hvy
end Go.Proofs.YtmkopcojnibhlaaGreatDoor

/-
  Bits of bytes: plain.
-/
namespace Go.Proofs.YtmkopcojnibhlaaGreatDoor

/-- Bit i of bytes, the first one the greatest of its byte. -/
def bitAt (l : List UInt8) (i : Nat) : Nat := (l.getD (i / 8) 0).toNat / 2 ^ (7 - i % 8) % 2
/-- The number of n bits from a on. -/
def numAt (l : List UInt8) (a : Nat) : Nat → Nat
  | 0 => 0
  | n + 1 => 2 * numAt l a n + bitAt l (a + n)
theorem bitAt_lt (l : List UInt8) (i : Nat) : bitAt l i < 2 := Nat.mod_lt _ (by omega)
theorem numAt_lt (l : List UInt8) (a n : Nat) : numAt l a n < 2 ^ n := by
  induction n with
  | zero => simp [numAt]
  | succ n ih =>
    have := bitAt_lt l (a + n)
    rw [numAt, Nat.pow_succ]
    omega
theorem numAt_one (l : List UInt8) (a : Nat) : numAt l a 1 = bitAt l a := by simp [numAt]
/-- The number of a + b bits is the first's and the second's. -/
theorem numAt_add (l : List UInt8) (a m n : Nat) : numAt l a (m + n) = 2 ^ n * numAt l a m + numAt l (a + m) n := by
  induction n with
  | zero => simp [numAt]
  | succ n ih =>
    show 2 * numAt l a (m + n) + bitAt l (a + (m + n)) = _
    rw [ih, numAt, Nat.pow_succ, Nat.add_assoc a m n, Nat.mul_add]
    rw [Nat.mul_assoc, Nat.mul_comm (2 ^ n) (2 * numAt l a m), Nat.mul_assoc 2, Nat.mul_comm (numAt l a m)]
    omega

/-- A Golomb number at a, behind n noughts that were passed, among 'f' more: the number, and how many bits it has had; none: no number. -/
def gget (l : List UInt8) (a : Nat) : Nat → Nat → Option (Nat × Nat)
  | _, 0 => none
  | n, f + 1 =>
    if a + n < 8 * l.length then
      if bitAt l (a + n) = 0 then gget l a (n + 1) f
      else if a + n + 1 + n ≤ 8 * l.length then some (2 ^ n + numAt l (a + n + 1) n - 1, a + n + 1 + n) else none
    else none
end Go.Proofs.YtmkopcojnibhlaaGreatDoor

/-
  bits.Reader: what it is in memory; Open, Left, Get, Align, Rest.
-/
namespace Go.Proofs.YtmkopcojnibhlaaGreatDoor
open Go.RowKit

/-- Block g is a reader of the bytes l, at bit a. -/
structure ReadIs (w : World) (B g : Nat) (l : List UInt8) (a : Nat) : Prop where
  base : B ≤ g
  ex : ∃ A c, Blk w g 207 #[.slice A l.length c, .int .i64 (a : Int)] ∧ Bytes w B (.slice A l.length c) l ∧ ∃ r, A = some ⟨r, 0, none⟩
  at_ : a ≤ 8 * l.length
  few : l.length ≤ 1048576
theorem ReadIs.tmod {w w' : World} {B B' g a : Nat} {T : TypeId → Bool} {l : List UInt8} (h : ReadIs w B g l a) (hm : TMod B' T w w') (h1 : T 207 = false) (h2 : T 5 = false) : ReadIs w' B g l a := by
  obtain ⟨hb, ⟨A, c, a1, a2, a3⟩, h3, h4⟩ := h
  exact ⟨hb, ⟨A, c, a1.tmod hm h1, own_tmod a2 hm h2, a3⟩, h3, h4⟩
theorem ReadIs.quiet {w w' : World} {B g a : Nat} {l : List UInt8} (h : ReadIs w B g l a) (hm : Mod (fun _ => False) w w') : ReadIs w' B g l a := h.tmod (B' := 0) (T := fun _ => false) (.of_quiet hm) rfl rfl

theorem bitsLeft (w : World) (B g a : Nat) (l : List UInt8) (h : ReadIs w B g l a) : Calls Tryz.prog 125 #[.pointer (some ⟨g, 0, none⟩)] w fun e w' => e = .returned (.int .i64 ((8 * l.length - a : Nat) : Int)) ∧ ∃ n, w' = w.drewN n := by
  obtain ⟨_, ⟨A, c, hb, _⟩, ha, hl⟩ := h
  have e : ((8 * l.length - a : Nat) : Int) = 8 * (l.length : Int) - (a : Int) := by omega
  rw [e]
  obtain ⟨hc, hf⟩ := hb.both
  clear e hb
  go_enter Tryz.func125, Tryz.ntmps125
  go_wp2_with fail
  go_quiet (fail)
  go_wp2_with fail
  go_ret
  exact ⟨rfl, _, rfl⟩

set_option maxRecDepth 100000 in
set_option maxHeartbeats 1000000 in
theorem bitsOpen (w : World) (A : Option Addr) (n c : Nat) (l : List UInt8) (h : BytesIn w A n c l) (hn : n ≤ 1048576) :
    Calls Tryz.prog 73 #[.slice A n c] w fun e w' => ∃ g, e = .returned (.pointer (some ⟨g, 0, none⟩)) ∧ ReadIs w' w.heap.size g l 0 ∧ Mod (fun _ => False) w w' := by
  obtain ⟨i0, hi0, hz0, hz1, hz2⟩ := info_parts u8_info
  obtain rfl : l.length = n := h.1
  have HIN := Lib.hid h
  have x1 : i0.bytes * l.length ≤ 281474976710656 := by rw [hz2]; omega
  have x2 : l.length ≤ maxLen := by unfold maxLen; omega
  have HX := Lib.hid (And.intro x1 x2)
  clear h x1 x2
  go_enter Tryz.func73, Tryz.ntmps73
  go_upto_region 2 with (with_reducible refine wpList_make_full _ rfl (.tmp 5) (.tmp 5) _ rfl w.heap.size 5 i0 (.int .u8 0) 1 Tryz.underlying36 hi0 hz0 hz1 _ _ _ _ l.length rfl rfl rfl rfl HX.out.1 HX.out.2 (Nat.le_refl _) ?_; intro w1 hown1 hg1; have HO := Lib.hid (And.intro hown1 hg1); clear hown1 hg1)
  obtain ⟨g, hg⟩ : ∃ g, g = w1.heap.size := ⟨_, rfl⟩
  have hbx : Blk (w1.alloc (.cells #[.slice (some ⟨w.heap.size, 0, none⟩) l.length l.length, .int .i64 0] 207)) w1.heap.size 207 #[.slice (some ⟨w.heap.size, 0, none⟩) l.length l.length, .int .i64 0] := Blk.new _ _ _
  have hrow := own_mod HO.out.1 ((Mod.refl (fun _ => False) w1).alloc (.cells #[.slice (some ⟨w.heap.size, 0, none⟩) l.length l.length, .int .i64 0] 207)) (fun _ _ h => h)
  have hM : Mod (fun _ => False) w (w1.alloc (.cells #[.slice (some ⟨w.heap.size, 0, none⟩) l.length l.length, .int .i64 0] 207)) := ((Mod.refl _ _).grown HO.out.2 (fun k hk => by cases hk)).alloc _
  rw [← hg] at hbx ⊢
  generalize w1.alloc (.cells #[.slice (some ⟨w.heap.size, 0, none⟩) l.length l.length, .int .i64 0] 207) = w2 at *
  have hne : w.heap.size ≠ g := by
    have := hbx.ne_ (own_whole hrow).1 (by decide)
    omega
  have hBg : w.heap.size ≤ g := by rw [hg]; exact ((Mod.refl (fun _ => False) _).grown HO.out.2 (fun k hk => by cases hk)).size
  obtain ⟨hc, hf⟩ := hbx.both
  have hsrc := (HIN.out.quiet hM).2.2.1
  have HR := Lib.hid (And.intro hrow (And.intro hbx (And.intro hM hsrc)))
  have HF : Hid (0 + l.length ≤ (madeCells (Value.cells (.int .u8 0)) (l.length * 1)).toList.length) := by show _ ≤ _; simp [size_madeCells]
  clear hrow hbx hM hsrc hg HO
  go_wp2_with (with_reducible refine wpList_copy_blk rfl (.tmp 12) (.tmp 13) _ _ rfl 5 Tryz.underlying36 (by kernel_rfl) (some ⟨w.heap.size, 0, none⟩) l.length l.length A l.length c (u8s l) rfl rfl HR.out.2.2.2 w.heap.size 0 _ 5 (own_whole HR.out.1).1 l.length (Nat.min_self _).symm (fun _ => rfl) HF.out (u8s_one l) ?_; intro w3 hb3 hm3; have HB := Lib.hid (And.intro hb3 hm3); clear hb3 hm3)
  go_ret
  have hl : splice (madeCells (Value.cells (.int .u8 0)) (l.length * 1)).toList 0 ((u8s l).take l.length) = u8s l := by
    rw [List.take_of_length_le (by simp [u8s])]
    simp [splice, u8s, size_madeCells]
  obtain ⟨hb3, hm3⟩ := HB.out
  rw [hl] at hb3
  refine ⟨g, rfl, ⟨hBg, ⟨_, _, HR.out.2.1.keep hm3 (fun e => hne e.symm), Bytes.of_blk (Nat.le_refl _) hb3 HX.out.2, _, rfl⟩, by omega, hn⟩, ?_⟩
  exact HR.out.2.2.1.into hm3 (fun i e => .inr (by omega))
end Go.Proofs.YtmkopcojnibhlaaGreatDoor

/-
  bits.Reader.Get.
-/
namespace Go.Proofs.YtmkopcojnibhlaaGreatDoor
open Go.RowKit

set_option maxHeartbeats 1000000 in
theorem bitsGet_short (w : World) (B g a n : Nat) (l : List UInt8) (h : ReadIs w B g l a) (hn : n ≤ 64) (hs : 8 * l.length < a + n) :
    Calls Tryz.prog 75 #[.pointer (some ⟨g, 0, none⟩), .int .i64 (n : Int)] w fun e w' => e = .returned (.tuple #[.int .u64 0, .int .i64 11]) ∧ ∃ m, w' = w.drewN m := by
  have hat := h.at_
  go_enter Tryz.func75, Tryz.ntmps75
  go_wp2_with fail
  refine (bitsLeft w B g a l h).mono ?_
  rintro e w1 ⟨rfl, m, rfl⟩
  go_wp2_with fail
  go_ret2
  exact ⟨rfl, m, rfl⟩

theorem bit_step (V x s : Nat) (hV : V < 2 ^ 63) (hx : x < 256) : bits BinOp.or IntKind.u64 (IntKind.u64.wrap ((V : Int) * 2)) (IntKind.u64.wrap (bits BinOp.and IntKind.u8 ((x : Int) / 2 ^ s) 1)) = ((2 * V + x / 2 ^ s % 2 : Nat) : Int) := by
  have hq : x / 2 ^ s < 256 := Nat.lt_of_le_of_lt (Nat.div_le_self _ _) hx
  have e1 : (x : Int) / 2 ^ s = ((x / 2 ^ s : Nat) : Int) := by rw [Int.natCast_ediv, Int.natCast_pow]; rfl
  have e2 : bits BinOp.and IntKind.u8 ((x / 2 ^ s : Nat) : Int) 1 = ((x / 2 ^ s % 2 : Nat) : Int) := by
    have := u8_and_nat (x / 2 ^ s) 1 hq (by omega)
    rw [Nat.and_one_is_mod] at this
    exact this
  have hb : x / 2 ^ s % 2 < 2 := Nat.mod_lt _ (by omega)
  have e3 : IntKind.u64.wrap ((V : Int) * 2) = ((2 * V : Nat) : Int) := by rw [IntKind.wrap_u64]; omega
  have e4 : IntKind.u64.wrap ((x / 2 ^ s % 2 : Nat) : Int) = ((x / 2 ^ s % 2 : Nat) : Int) := by rw [IntKind.wrap_u64]; omega
  rw [e1, e2, e3, e4, u64_or_nat _ _ (by omega) (by omega)]
  have := Nat.two_pow_add_eq_or_of_lt (i := 1) (show x / 2 ^ s % 2 < 2 ^ 1 by omega) V
  rw [Nat.pow_one] at this
  rw [← this]
theorem numAt_63 (l : List UInt8) (a k n : Nat) (hk : k < n) (hn : n ≤ 64) : numAt l a k < 2 ^ 63 := Nat.lt_of_lt_of_le (numAt_lt l a k) (Nat.pow_le_pow_right (by omega) (by omega))

def GetRel (w : World) (g n a : Nat) (A : Option Addr) (c : Nat) (l : List UInt8) (v i : Value) (wr : World) : Prop :=
  ∃ k : Nat, k ≤ n ∧ i = .int .i64 k ∧ v = .int .u64 ((numAt l a k : Nat) : Int) ∧ Blk wr g 207 #[.slice A l.length c, .int .i64 ((a + k : Nat) : Int)] ∧ Mod (· = g) w wr

set_option maxHeartbeats 2000000 in
theorem bitsGet (w : World) (B g a n : Nat) (l : List UInt8) (h : ReadIs w B g l a) (hn : n ≤ 64) (hs : a + n ≤ 8 * l.length) :
    Calls Tryz.prog 75 #[.pointer (some ⟨g, 0, none⟩), .int .i64 (n : Int)] w fun e w' => e = .returned (.tuple #[.int .u64 ((numAt l a n : Nat) : Int), .int .i64 0]) ∧ ReadIs w' B g l (a + n) ∧ Mod (· = g) w w' := by
  have hleft := bitsLeft w B g a l h
  obtain ⟨hB, ⟨A, c, hb, hby, hsm⟩, hat, hfew⟩ := h
  have HSM := Lib.hid hsm
  clear hsm
  have HB := Lib.hid (And.intro hb hby)
  have hl := hb.lt
  clear hb hby
  go_enter Tryz.func75, Tryz.ntmps75
  go_wp2_with fail
  refine hleft.mono ?_
  rintro e w1 ⟨rfl, m, rfl⟩
  have hb1 := HB.out.1.drewN m
  have M1 : Mod (· = g) w (w.drewN m) := (Mod.refl _ _).drewN _
  clear hleft
  generalize w.drewN m = w1 at *
  go_wp2_with fail
  go_loopw [6, 22] (GetRel w g n a A c l) (fun _ i _ => n - (intOf i).toNat)
  case atStart => exact ⟨0, by omega, rfl, rfl, hb1, M1⟩
  case round =>
    clear hb1 M1
    obtain ⟨k, hk, rfl, rfl, hbk, hM⟩ := hrel
    by_cases hlt : k < n
    · have hlen : 0 < l.length := by omega
      obtain ⟨r, hr, _⟩ := HB.out.2.some_ hlen
      subst hr
      have hrg : ¬ r = g := by
        obtain ⟨_, cs, h2⟩ := own_blk HB.out.2 (k := r) rfl
        exact h2.ne_ HB.out.1 (by decide)
      have hq : (a + k) / 8 < l.length := by omega
      have hcell := (own_mod HB.out.2 hM (fun j hj e => hrg (by
        have : r = j := by simpa [Value.ownBlock] using hj
        omega)))
      have hcl : wr.cell? ⟨r, (a + k) / 8, none⟩ = some (.int .u8 ((l.getD ((a + k) / 8) 0).toNat : Int)) := Bytes.cell hcell _ hq
      have hx : (l.getD ((a + k) / 8) 0).toNat < 256 := UInt8.toNat_lt _
      obtain ⟨x, hxe⟩ : ∃ x, x = (l.getD ((a + k) / 8) 0).toNat := ⟨_, rfl⟩
      rw [← hxe] at hcl hx
      have HE : Hid ((l.getD ((a + k) / 8) 0).toNat = x) := hxe.symm
      clear hxe
      have hv := numAt_lt l a k
      obtain ⟨hc, hf⟩ := hbk.both
      have HK := Lib.hid hbk
      clear hbk
      have i1 : (0 : Int) ≤ ((a + k : Nat) : Int) / 8 := by omega
      have i2 : ((a + k : Nat) : Int) / 8 < (l.length : Int) := by omega
      have i3 : (0 : Int) ≤ ((a + k : Nat) : Int) := by omega
      clear hcell
      go_wp2_with fail
      go_quiet (fail)
      go_wp2_with fail
      go_roundw
      case rel =>
        rw [bit_step _ _ _ (numAt_63 l a k n hlt hn) hx]
        refine ⟨k + 1, by omega, by go_num, by rw [numAt, bitAt, HE.out], (HK.out.drewN nq).put (by simp; omega), ?_⟩
        exact (hM.drewN nq).setCell (.inl rfl) _
      case measure => simp [intOf]; omega
    · obtain rfl : k = n := by omega
      have HF := Lib.hid (And.intro hbk hM)
      clear hbk hM
      go_wp2_with fail
      go_ret2
      obtain ⟨hbk, hM⟩ := HF.out
      refine ⟨rfl, ⟨hB, ⟨A, c, hbk, own_mod HB.out.2 hM (fun j hj e => ?_), HSM.out⟩, hs, hfew⟩, hM⟩
      exact own_ne_blk HB.out.2 HB.out.1 (by decide) (by rw [hj, e])
end Go.Proofs.YtmkopcojnibhlaaGreatDoor

/-
  golomb.Get.
-/
namespace Go.Proofs.YtmkopcojnibhlaaGreatDoor
open Go.RowKit

def GolPost (w : World) (B g a : Nat) (l : List UInt8) (e : Ending) (w' : World) : Prop :=
  (∃ code : Int, code ≠ 0 ∧ e = .returned (.tuple #[.int .u64 0, .int .i64 code]) ∧ gget l a 0 32 = none ∧ Mod (fun _ => False) w w') ∨
  ∃ v a' : Nat, gget l a 0 32 = some (v, a') ∧ e = .returned (.tuple #[.int .u64 (v : Int), .int .i64 0]) ∧ ReadIs w' B g l a' ∧ Mod (· = g) w w'

def GolRel (w : World) (B ab a : Nat) (l : List UInt8) (i : Value) (wr : World) : Prop :=
  ∃ k : Nat, k ≤ 32 ∧ i = .int .i64 k ∧ gget l a 0 32 = gget l a k (32 - k) ∧ a + k ≤ 8 * l.length ∧ ReadIs wr B ab l (a + k) ∧ Mod (· = ab) w wr

theorem gget_end (l : List UInt8) (a k : Nat) (hk : k < 32) (h : 8 * l.length < a + k + 1) : gget l a k (32 - k) = none := by
  rw [show 32 - k = (31 - k) + 1 by omega, gget, if_neg (by omega)]
theorem gget_zero (l : List UInt8) (a k : Nat) (hk : k < 32) (h : a + k + 1 ≤ 8 * l.length) (hb : bitAt l (a + k) = 0) : gget l a k (32 - k) = gget l a (k + 1) (32 - (k + 1)) := by
  rw [show 32 - k = (31 - k) + 1 by omega, gget, if_pos (by omega), if_pos hb, show 32 - (k + 1) = 31 - k by omega]
theorem gget_short (l : List UInt8) (a k : Nat) (hk : k < 32) (h : a + k + 1 ≤ 8 * l.length) (hb : bitAt l (a + k) ≠ 0) (hs : 8 * l.length < a + k + 1 + k) : gget l a k (32 - k) = none := by
  rw [show 32 - k = (31 - k) + 1 by omega, gget, if_pos (by omega), if_neg hb, if_neg (by omega)]
theorem gget_some (l : List UInt8) (a k : Nat) (hk : k < 32) (h : a + k + 1 ≤ 8 * l.length) (hb : bitAt l (a + k) ≠ 0) (hs : a + k + 1 + k ≤ 8 * l.length) : gget l a k (32 - k) = some (2 ^ k + numAt l (a + k + 1) k - 1, a + k + 1 + k) := by
  rw [show 32 - k = (31 - k) + 1 by omega, gget, if_pos (by omega), if_neg hb, if_pos (by omega)]

theorem gol_val (k V : Nat) (hk : k < 32) (hV : V < 2 ^ k) : IntKind.u64.wrap (bits BinOp.or IntKind.u64 (IntKind.u64.wrap (2 ^ k)) (V : Int) - 1) = ((2 ^ k + V - 1 : Nat) : Int) := by
  have h2 : 2 ^ k ≤ 2 ^ 31 := Nat.pow_le_pow_right (by omega) (by omega)
  have h1 : 1 ≤ 2 ^ k := Nat.pow_pos (by omega)
  have e0 : (2 : Int) ^ k = ((2 ^ k : Nat) : Int) := by rw [Int.natCast_pow]; rfl
  have e3 : IntKind.u64.wrap ((2 ^ k : Nat) : Int) = ((2 ^ k : Nat) : Int) := by rw [IntKind.wrap_u64]; omega
  rw [e0, e3, u64_or_nat _ _ (by omega) (by omega)]
  have := Nat.two_pow_add_eq_or_of_lt (i := k) hV 1
  rw [Nat.mul_one] at this
  rw [← this, IntKind.wrap_u64]
  omega

set_option maxRecDepth 100000 in
set_option maxHeartbeats 2000000 in
theorem golGet (w : World) (B g a : Nat) (l : List UInt8) (h : ReadIs w B g l a) :
    Calls Tryz.prog 76 #[.pointer (some ⟨g, 0, none⟩)] w (GolPost w B g a l) := by
  obtain ⟨hB, ⟨A, c, hb, hby, hsm⟩, hat, hfew⟩ := h
  have hgl := hb.lt
  obtain ⟨hc, hf⟩ := hb.both
  have hb1 : Blk (w.alloc (.cells #[.slice A l.length c, .int .i64 (a : Int)] 207)) w.heap.size 207 #[.slice A l.length c, .int .i64 (a : Int)] := Blk.new _ _ _
  have M1 : Mod (fun _ => False) w (w.alloc (.cells #[.slice A l.length c, .int .i64 (a : Int)] 207)) := (Mod.refl _ _).alloc _
  have h1 : ReadIs (w.alloc (.cells #[.slice A l.length c, .int .i64 (a : Int)] 207)) B w.heap.size l a := ⟨by omega, ⟨A, c, hb1, own_mod hby M1 (fun _ _ h => h), hsm⟩, hat, hfew⟩
  have HB := Lib.hid (And.intro hb (And.intro hby M1))
  clear hb hby hb1 M1 hsm
  go_enter Tryz.func76, Tryz.ntmps76
  go_wp2_with fail
  obtain ⟨ab, hab⟩ : ∃ ab, ab = w.heap.size := ⟨_, rfl⟩
  rw [← hab] at h1 ⊢
  have hgab : g < ab := by omega
  have habw : w.heap.size ≤ ab := by omega
  have M1 := HB.out.2.2
  generalize w.alloc (.cells #[.slice A l.length c, .int .i64 (a : Int)] 207) = w1 at *
  clear hab hc hf
  go_loopw [14] (GolRel w1 B ab a l) (fun i _ => 32 - (intOf i).toNat)
  case atStart => exact ⟨0, by omega, rfl, rfl, by omega, h1, Mod.refl _ _⟩
  case round =>
    clear h1
    obtain ⟨k, hk, rfl, hg, hak, hR, hM⟩ := hrel
    have HG := Lib.hid hg
    clear hg
    by_cases hlt : k < 32
    · by_cases hshort : 8 * l.length < a + k + 1
      · go_wp2_with fail
        refine (bitsGet_short _ B ab (a + k) 1 l hR (by omega) hshort).mono ?_
        rintro e w2 ⟨rfl, m, rfl⟩
        have HF : Hid (Mod (fun _ => False) w (wr.drewN m)) := (M1.into hM (fun i e => .inr (by omega))).drewN _
        clear hM hR
        go_wp2_with fail
        go_ret2
        exact .inl ⟨11, by decide, rfl, HG.out.trans (gget_end l a k hlt hshort), HF.out⟩
      · have hok : a + k + 1 ≤ 8 * l.length := by omega
        clear hshort
        go_wp2_with fail
        refine (bitsGet _ B ab (a + k) 1 l hR (by omega) hok).mono ?_
        rintro e w2 ⟨rfl, hR2, hM2⟩
        rw [numAt_one]
        have hM2' := hM.trans hM2
        clear hM hM2 hR
        by_cases hbit : bitAt l (a + k) = 0
        · have HZ := Lib.hid hbit
          rw [hbit]
          clear hbit
          go_wp2_with fail
          go_roundw
          case rel => exact ⟨k + 1, by omega, by go_num, HG.out.trans (gget_zero l a k hlt hok HZ.out), by omega, hR2, hM2'⟩
          case measure => simp [intOf]; omega
        · have hbn : (((bitAt l (a + k) : Nat) : Int) == 0) = false := beq_eq_false_iff_ne.2 (by omega)
          have hbn2 : (bitAt l (a + k) == 0) = false := beq_eq_false_iff_ne.2 hbit
          have HZ := Lib.hid hbit
          clear hbit
          by_cases hs2 : 8 * l.length < a + k + 1 + k
          · go_wp2_with fail
            refine (bitsGet_short _ B ab (a + k + 1) k l hR2 (by omega) hs2).mono ?_
            rintro e w3 ⟨rfl, m, rfl⟩
            have HF : Hid (Mod (fun _ => False) w (w2.drewN m)) := (M1.into hM2' (fun i e => .inr (by omega))).drewN _
            clear hM2' hR2
            go_wp2_with fail
            go_ret2
            exact .inl ⟨11, by decide, rfl, HG.out.trans (gget_short l a k hlt hok HZ.out hs2), HF.out⟩
          · have hok2 : a + k + 1 + k ≤ 8 * l.length := by omega
            clear hs2
            go_wp2_with fail
            refine (bitsGet _ B ab (a + k + 1) k l hR2 (by omega) hok2).mono ?_
            rintro e w3 ⟨rfl, hR3, hM3⟩
            have hM3' := hM2'.trans hM3
            obtain ⟨_, ⟨A3, c3, hb3, hby3, hsm3⟩, hat3, _⟩ := hR3
            have HSM := Lib.hid hsm3
            clear hsm3
            obtain ⟨hc3, hf3⟩ := hb3.both
            have hbg := (HB.out.1.keep M1 (fun h => h)).keep hM3' (by omega)
            obtain ⟨hcg, hfg⟩ := hbg.both
            have hgl3 := hbg.lt
            have HH := Lib.hid (And.intro hM3' (And.intro hb3 (And.intro hby3 hbg)))
            clear hM3' hb3 hby3 hbg hM2' hM3 hR2
            go_wp2_with fail
            go_ret2
            obtain ⟨z1, z2, z3, z4⟩ := HH.out
            refine .inr ⟨_, _, HG.out.trans (gget_some l a k hlt hok HZ.out hok2), ?_, ⟨hB, ⟨A3, c3, ?_, ?_, HSM.out⟩, hat3, hfew⟩, ?_⟩
            · rw [← gol_val k _ hlt (numAt_lt l (a + k + 1) k)]
              rfl
            · exact (z4.put rfl).put (by simp)
            · refine own_mod z3 (((Mod.refl (· = g) w3).setCell (p := ⟨g, 0, none⟩) (.inl rfl) (Value.slice A3 l.length c3)).setCell (p := ⟨g, 1, none⟩) (.inl rfl) _) (fun j hj e => ?_)
              exact own_ne_blk z3 z4 (by decide) (by rw [hj, e])
            · have hz : Mod (· = g) w w3 := (M1.mono (fun _ h => h.elim)).into z1 (fun i e => .inr (by omega))
              exact (hz.setCell (p := ⟨g, 0, none⟩) (.inl rfl) _).setCell (p := ⟨g, 1, none⟩) (.inl rfl) _
    · obtain rfl : k = 32 := by omega
      have HF : Hid (Mod (fun _ => False) w wr) := M1.into hM (fun i e => .inr (by omega))
      clear hM hR
      go_wp2_with fail
      go_ret2
      exact .inl ⟨21, by decide, rfl, HG.out, HF.out⟩
end Go.Proofs.YtmkopcojnibhlaaGreatDoor
