/-
  bits.Reader: what it is in memory; Open, Left, Get, Align, Rest.
-/
import Derived.Test.YteppnjgfebcmjaaGreatBytes
import Derived.Test.YteppnjgfebcmjaaGreatBitsPlain
namespace Go.Proofs.YteppnjgfebcmjaaGreat
open Go.RowKit

/-- Block g is a reader of the bytes l, at bit a. -/
structure ReadIs (w : World) (B g : Nat) (l : List UInt8) (a : Nat) : Prop where
  base : B ≤ g
  ex : ∃ A c, Blk w g 156 #[.slice A l.length c, .int .i64 (a : Int)] ∧ Bytes w B (.slice A l.length c) l ∧ ∃ r, A = some ⟨r, 0, none⟩
  at_ : a ≤ 8 * l.length
  few : l.length ≤ 1048576
theorem ReadIs.tmod {w w' : World} {B B' g a : Nat} {T : TypeId → Bool} {l : List UInt8} (h : ReadIs w B g l a) (hm : TMod B' T w w') (h1 : T 156 = false) (h2 : T 5 = false) : ReadIs w' B g l a := by
  obtain ⟨hb, ⟨A, c, a1, a2, a3⟩, h3, h4⟩ := h
  exact ⟨hb, ⟨A, c, a1.tmod hm h1, own_tmod a2 hm h2, a3⟩, h3, h4⟩
theorem ReadIs.quiet {w w' : World} {B g a : Nat} {l : List UInt8} (h : ReadIs w B g l a) (hm : Mod (fun _ => False) w w') : ReadIs w' B g l a := h.tmod (B' := 0) (T := fun _ => false) (.of_quiet hm) rfl rfl

theorem bitsLeft (w : World) (B g a : Nat) (l : List UInt8) (h : ReadIs w B g l a) : Calls Tryz.prog 99 #[.pointer (some ⟨g, 0, none⟩)] w fun e w' => e = .returned (.int .i64 ((8 * l.length - a : Nat) : Int)) ∧ ∃ n, w' = w.drewN n := by
  obtain ⟨_, ⟨A, c, hb, _⟩, ha, hl⟩ := h
  have e : ((8 * l.length - a : Nat) : Int) = 8 * (l.length : Int) - (a : Int) := by omega
  rw [e]
  obtain ⟨hc, hf⟩ := hb.both
  clear e hb
  go_enter Tryz.func99, Tryz.ntmps99
  go_wp2_with fail
  go_quiet (fail)
  go_wp2_with fail
  go_ret
  exact ⟨rfl, _, rfl⟩

set_option maxRecDepth 100000 in
set_option maxHeartbeats 1000000 in
theorem bitsOpen (w : World) (A : Option Addr) (n c : Nat) (l : List UInt8) (h : BytesIn w A n c l) (hn : n ≤ 1048576) :
    Calls Tryz.prog 53 #[.slice A n c] w fun e w' => ∃ g, e = .returned (.pointer (some ⟨g, 0, none⟩)) ∧ ReadIs w' w.heap.size g l 0 ∧ Mod (fun _ => False) w w' := by
  obtain ⟨i0, hi0, hz0, hz1, hz2⟩ := info_parts u8_info
  obtain rfl : l.length = n := h.1
  have HIN := Lib.hid h
  have x1 : i0.bytes * l.length ≤ 281474976710656 := by rw [hz2]; omega
  have x2 : l.length ≤ maxLen := by unfold maxLen; omega
  have HX := Lib.hid (And.intro x1 x2)
  clear h x1 x2
  go_enter Tryz.func53, Tryz.ntmps53
  go_upto_region 2 with (with_reducible refine wpList_make_full _ rfl (.tmp 5) (.tmp 5) _ rfl w.heap.size 5 i0 (.int .u8 0) 1 Tryz.underlying22 hi0 hz0 hz1 _ _ _ _ l.length rfl rfl rfl rfl HX.out.1 HX.out.2 (Nat.le_refl _) ?_; intro w1 hown1 hg1; have HO := Lib.hid (And.intro hown1 hg1); clear hown1 hg1)
  obtain ⟨g, hg⟩ : ∃ g, g = w1.heap.size := ⟨_, rfl⟩
  have hbx : Blk (w1.alloc (.cells #[.slice (some ⟨w.heap.size, 0, none⟩) l.length l.length, .int .i64 0] 156)) w1.heap.size 156 #[.slice (some ⟨w.heap.size, 0, none⟩) l.length l.length, .int .i64 0] := Blk.new _ _ _
  have hrow := own_mod HO.out.1 ((Mod.refl (fun _ => False) w1).alloc (.cells #[.slice (some ⟨w.heap.size, 0, none⟩) l.length l.length, .int .i64 0] 156)) (fun _ _ h => h)
  have hM : Mod (fun _ => False) w (w1.alloc (.cells #[.slice (some ⟨w.heap.size, 0, none⟩) l.length l.length, .int .i64 0] 156)) := ((Mod.refl _ _).grown HO.out.2 (fun k hk => by cases hk)).alloc _
  rw [← hg] at hbx ⊢
  generalize w1.alloc (.cells #[.slice (some ⟨w.heap.size, 0, none⟩) l.length l.length, .int .i64 0] 156) = w2 at *
  have hne : w.heap.size ≠ g := by
    have := hbx.ne_ (own_whole hrow).1 (by decide)
    omega
  have hBg : w.heap.size ≤ g := by rw [hg]; exact ((Mod.refl (fun _ => False) _).grown HO.out.2 (fun k hk => by cases hk)).size
  obtain ⟨hc, hf⟩ := hbx.both
  have hsrc := (HIN.out.quiet hM).2.2.1
  have HR := Lib.hid (And.intro hrow (And.intro hbx (And.intro hM hsrc)))
  have HF : Hid (0 + l.length ≤ (madeCells (Value.cells (.int .u8 0)) (l.length * 1)).toList.length) := by show _ ≤ _; simp [size_madeCells]
  clear hrow hbx hM hsrc hg HO
  go_wp2_with (with_reducible refine wpList_copy_blk rfl (.tmp 12) (.tmp 13) _ _ rfl 5 Tryz.underlying22 (by kernel_rfl) (some ⟨w.heap.size, 0, none⟩) l.length l.length A l.length c (u8s l) rfl rfl HR.out.2.2.2 w.heap.size 0 _ 5 (own_whole HR.out.1).1 l.length (Nat.min_self _).symm (fun _ => rfl) HF.out (u8s_one l) ?_; intro w3 hb3 hm3; have HB := Lib.hid (And.intro hb3 hm3); clear hb3 hm3)
  go_ret
  have hl : splice (madeCells (Value.cells (.int .u8 0)) (l.length * 1)).toList 0 ((u8s l).take l.length) = u8s l := by
    rw [List.take_of_length_le (by simp [u8s])]
    simp [splice, u8s, size_madeCells]
  obtain ⟨hb3, hm3⟩ := HB.out
  rw [hl] at hb3
  refine ⟨g, rfl, ⟨hBg, ⟨_, _, HR.out.2.1.keep hm3 (fun e => hne e.symm), Bytes.of_blk (Nat.le_refl _) hb3 HX.out.2, _, rfl⟩, by omega, hn⟩, ?_⟩
  exact HR.out.2.2.1.into hm3 (fun i e => .inr (by omega))
end Go.Proofs.YteppnjgfebcmjaaGreat
