/-
  The reference's clip and Clip.
-/
import Derived.Test.YteppnjgfebcmjaaGreatM4
import Derived.Test.YteppnjgfebcmjaaGreatM26
import Derived.Test.YteppnjgfebcmjaaGreatM19
namespace Go.Proofs.YteppnjgfebcmjaaGreat
open Go.RowKit

theorem rclip_any (w : World) (v : Int) : Calls Tryz.prog 96 #[.int .i64 v] w fun e w' => e = .returned (.int .u8 ((clipN v : Nat) : Int)) ∧ w = w' := by
  unfold clipN
  by_cases h1 : v < 0
  · rw [if_pos h1]
    go_enter Tryz.func96, Tryz.ntmps96
    go_wp2_with fail
    go_ret
    exact ⟨rfl, rfl⟩
  · rw [if_neg h1]
    by_cases h2 : 255 < v
    · rw [if_pos h2]
      go_enter Tryz.func96, Tryz.ntmps96
      go_wp2_with fail
      go_ret
      exact ⟨rfl, rfl⟩
    · rw [if_neg h2]
      have e3 : v % 256 = ((v.toNat : Nat) : Int) := by omega
      have e4 : v = ((v.toNat : Nat) : Int) := by omega
      generalize v.toNat = n at *
      subst e4
      clear e3
      go_enter Tryz.func96, Tryz.ntmps96
      go_wp2_with fail
      go_ret
      exact ⟨rfl, rfl⟩
theorem clipL_at (g : List UInt8) (r : List Int) : clipL g r = (List.range g.length).map fun i => UInt8.ofNat (clipAt g r i) := by
  unfold clipL cpL
  refine List.map_congr_left fun i hi => ?_
  rw [if_pos (List.mem_range.1 hi)]
def clipTo (g : List UInt8) (r : List Int) (k : Nat) : List UInt8 := (List.range k).map fun i => UInt8.ofNat (clipAt g r i)
theorem clipTo_succ (g : List UInt8) (r : List Int) (k : Nat) : clipTo g r (k + 1) = clipTo g r k ++ [UInt8.ofNat (clipAt g r k)] := by simp [clipTo, List.range_succ]
def RClipRel (w : World) (g : List UInt8) (r : List Int) (v i : Value) (wr : World) : Prop :=
  ∃ k : Nat, k ≤ g.length ∧ i = .int .i64 k ∧ Bytes wr w.heap.size v (clipTo g r k) ∧ Mod (fun _ => False) w wr
theorem clipN_hi (v : Int) (h : 255 ≤ v) : clipN v = 255 := by unfold clipN; rw [if_neg (by omega)]; split <;> omega
theorem clipN_lo (v : Int) (h : v ≤ 0) : clipN v = 0 := by unfold clipN; split; rfl; rw [if_neg (by omega)]; omega
theorem clip300 (x : Nat) (y : Int) (hx : x < 256) : clipN ((x : Int) + min (max y (-255)) 255) = clipN ((x : Int) + min (max y (-300)) 300) := by
  by_cases h1 : y < -255
  · rw [clipN_lo _ (by omega), clipN_lo _ (by omega)]
  · by_cases h2 : 255 < y
    · rw [clipN_hi _ (by omega), clipN_hi _ (by omega)]
    · rw [show min (max y (-255)) 255 = y by omega, show min (max y (-300)) 300 = y by omega]

set_option maxRecDepth 100000 in
set_option maxHeartbeats 4000000 in
theorem rclipAll (w : World) (A : Option Addr) (n c : Nat) (g : List UInt8) (A2 : Option Addr) (c2 : Nat) (r : List Int) (hin : BytesIn w A n c g) (hin2 : IntsIn w A2 n c2 r) (hn0 : 0 < n) (hn : n ≤ 1048576) :
    Calls Tryz.prog 42 #[.slice A n c, .slice A2 n c2] w fun e w' => ∃ v, e = .returned v ∧ Bytes w' w.heap.size v (clipL g r) ∧ Mod (fun _ => False) w w' := by
  obtain ⟨i0, hi0, hz0, hz1, hz2⟩ := info_parts u8_info
  obtain rfl : g.length = n := hin.1
  obtain ⟨b, off, rfl, hb, hc⟩ := hin.place hn0
  obtain ⟨b2, off2, rfl, hb2, hc2⟩ := hin2.place hn0
  have HC := Lib.hid (And.intro hc hc2)
  clear hc hc2 hin hin2
  go_enter Tryz.func42, Tryz.ntmps42
  go_wp2_with fail
  go_loopw [5, 6] (RClipRel w g r) (fun _ i _ => g.length - (intOf i).toNat)
  case atStart => exact ⟨0, by omega, rfl, World.ownsRow_nil _ _ _ _, Mod.refl _ _⟩
  case round =>
    obtain ⟨k, hk, rfl, hrow, hM⟩ := hrel
    by_cases hlt : k < g.length
    · have hck : wr.cell? ⟨b, off + k, none⟩ = some (.int .u8 ((g.getD k 0).toNat : Int)) := (World.cell?_of_block (hM.block b hb (fun h => h))).trans (HC.out.1 k hlt)
      have hck2 : wr.cell? ⟨b2, off2 + k, none⟩ = some (.int .i64 (r.getD k 0)) := (World.cell?_of_block (hM.block b2 hb2 (fun h => h))).trans (HC.out.2 k hlt)
      have hx : (g.getD k 0).toNat < 256 := UInt8.toNat_lt _
      have HFA : Hid (clipAt g r k = clipN (((g.getD k 0).toNat : Int) + min (max (r.getD k 0) (-300)) 300)) := clip300 _ _ hx
      generalize (g.getD k 0).toNat = x at *
      generalize r.getD k 0 = y at *
      have i1 : (0 : Int) ≤ (k : Int) := by omega
      have i2 : (k : Int) < (g.length : Int) := by omega
      obtain ⟨A5, c5, hv5⟩ := own_shape hrow
      subst hv5
      have hlk : (clipTo g r k).length = k := by simp [clipTo]
      have hwl := World.block_lt_of_cell? _ _ hck
      have hwl2 := World.block_lt_of_cell? _ _ hck2
      have hrow' : wr.ownsRow w.heap.size 5 1 (.slice A5 k c5) k (u8s (clipTo g r k)) := by
        unfold Bytes at hrow
        rwa [hlk] at hrow
      have HB := Lib.hid (And.intro hrow' hM)
      rw [hlk]
      clear hlk hrow hrow' hM
      obtain ⟨z, hz, hz2'⟩ : ∃ z, z = min (max y (-300)) 300 ∧ -300 ≤ z ∧ z ≤ 300 := ⟨_, rfl, by omega, by omega⟩
      rw [← hz] at HFA
      have y1 : IntKind.i64.wrap ((x : Int) + z) = (x : Int) + z := IntWalk.i64_in _ ⟨by omega, by omega⟩
      have q1 : k + 1 ≤ maxLen := by unfold maxLen; omega
      have q2 : (k + 1) * 1 ≤ 140737488355328 := by omega
      have q3 : ∀ o, w.heap.size ≤ ((wr.drew).alloc o).heap.size := fun o => by have := HB.out.2.size; simp; omega
      have q4 : ¬ (Value.slice A5 k c5).ownBlock = some b := fun e => by have := (HB.out.1.lt b e).1; omega
      have q5 : ¬ (Value.slice A5 k c5).ownBlock = some b2 := fun e => by have := (HB.out.1.lt b2 e).1; omega
      have HX := Lib.hid (And.intro q1 (And.intro q2 (And.intro (q3 (.cells #[.int .u8 ((clipN ((x : Int) + z) : Nat) : Int)] 5)) (And.intro q4 q5))))
      clear q1 q2 q3 q4 q5
      have hy : y < -300 ∨ 300 < y ∨ (-300 ≤ y ∧ y ≤ 300) := by omega
      have hy' : y < -300 ∨ (¬ y < -300 ∧ 300 < y) ∨ (¬ y < -300 ∧ ¬ 300 < y) := by omega
      clear hy
      rcases hy' with hy | ⟨hy1, hy2⟩ | ⟨hy1, hy2⟩
      · have ez : (x : Int) + -300 = (x : Int) + z := by omega
        have y2 : IntKind.i64.wrap (IntKind.i64.wrap (x : Int) + -300) = (x : Int) + z := by rw [IntWalk.i64_in (x : Int) ⟨by omega, by omega⟩, ez]; exact y1
        have HV : Hid (clipN ((x : Int) + z) = clipAt g r k) := HFA.out.symm
        have hcn := clipN_lt ((x : Int) + z)
        clear ez hz y1 HFA
        go_upto_region 7 with (fail)
        have ka : ((wr.drew).alloc (.cells #[.int .u8 ((clipN ((x : Int) + z) : Nat) : Int)] 5)).cell? ⟨b, off + k, none⟩ = some (.int .u8 (x : Int)) ∧ ((wr.drew).alloc (.cells #[.int .u8 ((clipN ((x : Int) + z) : Nat) : Int)] 5)).cell? ⟨b2, off2 + k, none⟩ = some (.int .i64 y) := ⟨(World.cell?_alloc_lt _ _ _ hwl).trans hck, (World.cell?_alloc_lt _ _ _ hwl2).trans hck2⟩
        go_region_held3 (fun w' => w'.cell? ⟨b, off + k, none⟩ = some (.int .u8 (x : Int)) ∧ w'.cell? ⟨b2, off2 + k, none⟩ = some (.int .i64 y)) (first | exact ⟨hck, hck2⟩ | exact ka | exact kb) (first
          | (go_at_call 96; refine (rclip_any _ _).mono ?_; rintro e w3 ⟨rfl, rfl⟩)
          | (refine step_append_src _ (by rfl) _ _ _ (by rfl) w.heap.size 5 i0 _ 1 1 Tryz.underlying22 hi0 hz0 hz1 hz2 rfl (by omega) (.slice A5 k c5) k (u8s (clipTo g r k)) (by rfl) (own_mod HB.out.1 (((Mod.refl (fun _ => False) wr).drew).alloc _) (fun _ _ h => h)) (some ⟨wr.heap.size, 0, none⟩) 1 1 [.int .u8 ((clipN ((x : Int) + z) : Nat) : Int)] (by rfl) (Src.new wr.drew 5 [.int .u8 ((clipN ((x : Int) + z) : Nat) : Int)]) (fun h => by cases h) (fun u hu => by rw [List.mem_singleton.1 hu]; rfl) HX.out.1 HX.out.2.1 HX.out.2.2.1 ?_; intro v4 w4 hown4 hg4 hat4; have Ma : Mod (fun j => (Value.slice A5 k c5).ownBlock = some j) wr w4 := (((Mod.refl _ _).drew).alloc _).grown hg4 (fun j hj => .inl hj); have kb : w4.cell? ⟨b, off + k, none⟩ = some (.int .u8 (x : Int)) ∧ w4.cell? ⟨b2, off2 + k, none⟩ = some (.int .i64 y) := ⟨(World.cell?_of_block (Ma.block b hwl HX.out.2.2.2.1)).trans hck, (World.cell?_of_block (Ma.block b2 hwl2 HX.out.2.2.2.2)).trans hck2⟩; have HO := Lib.hid (And.intro hown4 Ma); clear hown4 hg4 hat4 Ma))
        go_wp2_with fail
        go_roundw
        case rel =>
          obtain ⟨hown4, Ma⟩ := HO.out
          refine ⟨k + 1, by omega, by go_num, ?_, HB.out.2.into Ma (fun i e => .inr (HB.out.1.lt i e).1)⟩
          have e8 : u8s (clipTo g r (k + 1)) = u8s (clipTo g r k) ++ [.int .u8 ((clipN ((x : Int) + z) : Nat) : Int)] := by
            have e9 : (UInt8.ofNat (clipAt g r k)).toNat = clipN ((x : Int) + z) := by rw [← HV.out, UInt8.toNat_ofNat']; omega
            rw [clipTo_succ]
            simp [u8s, e9]
          unfold Bytes
          rw [e8, show (clipTo g r (k + 1)).length = k + 1 by simp [clipTo]]
          exact hown4
        case measure => simp [intOf]; omega
      · have ez : (x : Int) + 300 = (x : Int) + z := by omega
        have y2 : IntKind.i64.wrap (IntKind.i64.wrap (x : Int) + 300) = (x : Int) + z := by rw [IntWalk.i64_in (x : Int) ⟨by omega, by omega⟩, ez]; exact y1
        have HV : Hid (clipN ((x : Int) + z) = clipAt g r k) := HFA.out.symm
        have hcn := clipN_lt ((x : Int) + z)
        clear ez hz y1 HFA
        go_upto_region 7 with (fail)
        have ka : ((wr.drew).alloc (.cells #[.int .u8 ((clipN ((x : Int) + z) : Nat) : Int)] 5)).cell? ⟨b, off + k, none⟩ = some (.int .u8 (x : Int)) ∧ ((wr.drew).alloc (.cells #[.int .u8 ((clipN ((x : Int) + z) : Nat) : Int)] 5)).cell? ⟨b2, off2 + k, none⟩ = some (.int .i64 y) := ⟨(World.cell?_alloc_lt _ _ _ hwl).trans hck, (World.cell?_alloc_lt _ _ _ hwl2).trans hck2⟩
        go_region_held3 (fun w' => w'.cell? ⟨b, off + k, none⟩ = some (.int .u8 (x : Int)) ∧ w'.cell? ⟨b2, off2 + k, none⟩ = some (.int .i64 y)) (first | exact ⟨hck, hck2⟩ | exact ka | exact kb) (first
          | (go_at_call 96; refine (rclip_any _ _).mono ?_; rintro e w3 ⟨rfl, rfl⟩)
          | (refine step_append_src _ (by rfl) _ _ _ (by rfl) w.heap.size 5 i0 _ 1 1 Tryz.underlying22 hi0 hz0 hz1 hz2 rfl (by omega) (.slice A5 k c5) k (u8s (clipTo g r k)) (by rfl) (own_mod HB.out.1 (((Mod.refl (fun _ => False) wr).drew).alloc _) (fun _ _ h => h)) (some ⟨wr.heap.size, 0, none⟩) 1 1 [.int .u8 ((clipN ((x : Int) + z) : Nat) : Int)] (by rfl) (Src.new wr.drew 5 [.int .u8 ((clipN ((x : Int) + z) : Nat) : Int)]) (fun h => by cases h) (fun u hu => by rw [List.mem_singleton.1 hu]; rfl) HX.out.1 HX.out.2.1 HX.out.2.2.1 ?_; intro v4 w4 hown4 hg4 hat4; have Ma : Mod (fun j => (Value.slice A5 k c5).ownBlock = some j) wr w4 := (((Mod.refl _ _).drew).alloc _).grown hg4 (fun j hj => .inl hj); have kb : w4.cell? ⟨b, off + k, none⟩ = some (.int .u8 (x : Int)) ∧ w4.cell? ⟨b2, off2 + k, none⟩ = some (.int .i64 y) := ⟨(World.cell?_of_block (Ma.block b hwl HX.out.2.2.2.1)).trans hck, (World.cell?_of_block (Ma.block b2 hwl2 HX.out.2.2.2.2)).trans hck2⟩; have HO := Lib.hid (And.intro hown4 Ma); clear hown4 hg4 hat4 Ma))
        go_wp2_with fail
        go_roundw
        case rel =>
          obtain ⟨hown4, Ma⟩ := HO.out
          refine ⟨k + 1, by omega, by go_num, ?_, HB.out.2.into Ma (fun i e => .inr (HB.out.1.lt i e).1)⟩
          have e8 : u8s (clipTo g r (k + 1)) = u8s (clipTo g r k) ++ [.int .u8 ((clipN ((x : Int) + z) : Nat) : Int)] := by
            have e9 : (UInt8.ofNat (clipAt g r k)).toNat = clipN ((x : Int) + z) := by rw [← HV.out, UInt8.toNat_ofNat']; omega
            rw [clipTo_succ]
            simp [u8s, e9]
          unfold Bytes
          rw [e8, show (clipTo g r (k + 1)).length = k + 1 by simp [clipTo]]
          exact hown4
        case measure => simp [intOf]; omega
      · have ez : (x : Int) + y = (x : Int) + z := by omega
        have y2 : IntKind.i64.wrap (IntKind.i64.wrap (x : Int) + y) = (x : Int) + z := by rw [IntWalk.i64_in (x : Int) ⟨by omega, by omega⟩, ez]; exact y1
        have HV : Hid (clipN ((x : Int) + z) = clipAt g r k) := HFA.out.symm
        have hcn := clipN_lt ((x : Int) + z)
        clear ez hz y1 HFA
        go_upto_region 7 with (fail)
        have ka : ((wr.drew).alloc (.cells #[.int .u8 ((clipN ((x : Int) + z) : Nat) : Int)] 5)).cell? ⟨b, off + k, none⟩ = some (.int .u8 (x : Int)) ∧ ((wr.drew).alloc (.cells #[.int .u8 ((clipN ((x : Int) + z) : Nat) : Int)] 5)).cell? ⟨b2, off2 + k, none⟩ = some (.int .i64 y) := ⟨(World.cell?_alloc_lt _ _ _ hwl).trans hck, (World.cell?_alloc_lt _ _ _ hwl2).trans hck2⟩
        go_region_held3 (fun w' => w'.cell? ⟨b, off + k, none⟩ = some (.int .u8 (x : Int)) ∧ w'.cell? ⟨b2, off2 + k, none⟩ = some (.int .i64 y)) (first | exact ⟨hck, hck2⟩ | exact ka | exact kb) (first
          | (go_at_call 96; refine (rclip_any _ _).mono ?_; rintro e w3 ⟨rfl, rfl⟩)
          | (refine step_append_src _ (by rfl) _ _ _ (by rfl) w.heap.size 5 i0 _ 1 1 Tryz.underlying22 hi0 hz0 hz1 hz2 rfl (by omega) (.slice A5 k c5) k (u8s (clipTo g r k)) (by rfl) (own_mod HB.out.1 (((Mod.refl (fun _ => False) wr).drew).alloc _) (fun _ _ h => h)) (some ⟨wr.heap.size, 0, none⟩) 1 1 [.int .u8 ((clipN ((x : Int) + z) : Nat) : Int)] (by rfl) (Src.new wr.drew 5 [.int .u8 ((clipN ((x : Int) + z) : Nat) : Int)]) (fun h => by cases h) (fun u hu => by rw [List.mem_singleton.1 hu]; rfl) HX.out.1 HX.out.2.1 HX.out.2.2.1 ?_; intro v4 w4 hown4 hg4 hat4; have Ma : Mod (fun j => (Value.slice A5 k c5).ownBlock = some j) wr w4 := (((Mod.refl _ _).drew).alloc _).grown hg4 (fun j hj => .inl hj); have kb : w4.cell? ⟨b, off + k, none⟩ = some (.int .u8 (x : Int)) ∧ w4.cell? ⟨b2, off2 + k, none⟩ = some (.int .i64 y) := ⟨(World.cell?_of_block (Ma.block b hwl HX.out.2.2.2.1)).trans hck, (World.cell?_of_block (Ma.block b2 hwl2 HX.out.2.2.2.2)).trans hck2⟩; have HO := Lib.hid (And.intro hown4 Ma); clear hown4 hg4 hat4 Ma))
        go_wp2_with fail
        go_roundw
        case rel =>
          obtain ⟨hown4, Ma⟩ := HO.out
          refine ⟨k + 1, by omega, by go_num, ?_, HB.out.2.into Ma (fun i e => .inr (HB.out.1.lt i e).1)⟩
          have e8 : u8s (clipTo g r (k + 1)) = u8s (clipTo g r k) ++ [.int .u8 ((clipN ((x : Int) + z) : Nat) : Int)] := by
            have e9 : (UInt8.ofNat (clipAt g r k)).toNat = clipN ((x : Int) + z) := by rw [← HV.out, UInt8.toNat_ofNat']; omega
            rw [clipTo_succ]
            simp [u8s, e9]
          unfold Bytes
          rw [e8, show (clipTo g r (k + 1)).length = k + 1 by simp [clipTo]]
          exact hown4
        case measure => simp [intOf]; omega
    · obtain rfl : k = g.length := by omega
      have HB := Lib.hid (And.intro hrow hM)
      obtain ⟨A5, c5, hv5⟩ := own_shape hrow
      subst hv5
      clear hrow hM
      go_wp2_with fail
      go_ret
      refine ⟨_, rfl, ?_, HB.out.2⟩
      rw [clipL_at]
      exact HB.out.1
end Go.Proofs.YteppnjgfebcmjaaGreat

/-
  The reference's intra: what is around a block, plain.
-/
namespace Go.Proofs.YteppnjgfebcmjaaGreat
open Go.RowKit

def atN (W H : Nat) (pix : List UInt8) (x y : Int) : Nat := if x < 0 then 128 else if y < 0 then 128 else if (W : Int) ≤ x then 128 else if (H : Int) ≤ y then 128 else (pix.getD (y.toNat * W + x.toNat) 0).toNat
theorem atN_lt (W H : Nat) (pix : List UInt8) (x y : Int) : atN W H pix x y < 256 := by
  unfold atN
  repeat (split; · omega)
  exact UInt8.toNat_lt _
theorem atN_in (W H : Nat) (pix : List UInt8) (x y : Nat) (hx : x < W) (hy : y < H) : atN W H pix (x : Int) (y : Int) = (pix.getD (y * W + x) 0).toNat := by
  unfold atN
  rw [if_neg (by omega), if_neg (by omega), if_neg (by omega), if_neg (by omega), Int.toNat_natCast, Int.toNat_natCast]
theorem atN_ab {W H : Nat} (pix : List UInt8) {x y i : Nat} (hx : x + 8 ≤ W) (hy : y + 8 ≤ H) (hi : i < 8) : atN W H pix ((x : Int) + (i : Int)) ((y : Int) - 1) = ((lkAb W pix x y).getD i 0).toNat := by
  have e : (lkAb W pix x y).getD i 0 = if 0 < y then pix.getD (y * W + x - W + i) 0 else 128 := by simp [lkAb, hi]
  rw [e]
  by_cases h : 0 < y
  · obtain ⟨z, rfl⟩ : ∃ z, y = z + 1 := ⟨y - 1, by omega⟩
    rw [if_pos h, show ((z + 1 : Nat) : Int) - 1 = ((z : Nat) : Int) by omega, show (x : Int) + (i : Int) = ((x + i : Nat) : Int) by omega, atN_in _ _ _ _ _ (by omega) (by omega)]
    rw [show (z + 1) * W + x - W + i = z * W + (x + i) by rw [Nat.add_mul, Nat.one_mul]; omega]
  · rw [if_neg h]
    unfold atN
    rw [if_neg (by omega), if_pos (by omega)]
    rfl
theorem atN_lf {W H : Nat} (pix : List UInt8) {x y j : Nat} (hx : x + 8 ≤ W) (hy : y + 8 ≤ H) (hj : j < 8) : atN W H pix ((x : Int) - 1) ((y : Int) + (j : Int)) = ((lkLf W pix x y).getD j 0).toNat := by
  have e : (lkLf W pix x y).getD j 0 = if 0 < x then pix.getD (y * W + x + j * W - 1) 0 else 128 := by simp [lkLf, hj]
  rw [e]
  by_cases h : 0 < x
  · obtain ⟨z, rfl⟩ : ∃ z, x = z + 1 := ⟨x - 1, by omega⟩
    rw [if_pos h, show ((z + 1 : Nat) : Int) - 1 = ((z : Nat) : Int) by omega, show (y : Int) + (j : Int) = ((y + j : Nat) : Int) by omega, atN_in _ _ _ _ _ (by omega) (by omega)]
    rw [show y * W + (z + 1) + j * W - 1 = (y + j) * W + z by rw [Nat.add_mul]; omega]
  · rw [if_neg h]
    unfold atN
    rw [if_pos (by omega)]
    rfl
theorem atN_co {W H : Nat} (pix : List UInt8) {x y : Nat} (hx : x + 8 ≤ W) (hy : y + 8 ≤ H) : atN W H pix ((x : Int) - 1) ((y : Int) - 1) = (lkCo W pix x y).toNat := by
  unfold lkCo
  by_cases h : 0 < x ∧ 0 < y
  · obtain ⟨z, rfl⟩ : ∃ z, x = z + 1 := ⟨x - 1, by omega⟩
    obtain ⟨u, rfl⟩ : ∃ u, y = u + 1 := ⟨y - 1, by omega⟩
    rw [if_pos h, show ((z + 1 : Nat) : Int) - 1 = ((z : Nat) : Int) by omega, show ((u + 1 : Nat) : Int) - 1 = ((u : Nat) : Int) by omega, atN_in _ _ _ _ _ (by omega) (by omega)]
    rw [show (u + 1) * W + (z + 1) - W - 1 = u * W + z by rw [Nat.add_mul, Nat.one_mul]; omega]
  · rw [if_neg h]
    unfold atN
    by_cases hz : x = 0
    · rw [if_pos (by omega)]
      rfl
    · rw [if_neg (by omega), if_pos (by omega)]
      rfl
end Go.Proofs.YteppnjgfebcmjaaGreat

/-
  The reference's intra: at, sample.
-/
namespace Go.Proofs.YteppnjgfebcmjaaGreat
open Go.RowKit

theorem at_idx {W xn yn m k n : Nat} (hm : m = yn * W) (hk : k = m + xn) (hml : k < n) (hn : n ≤ 16777216) : wrap64 (wrap64 ((yn : Int) * (W : Int)) + (xn : Int)) = (k : Int) := by
  rw [show (yn : Int) * (W : Int) = (m : Int) by rw [hm]; simp, IntWalk.wrap64_in (m : Int) ⟨by omega, by omega⟩, show (m : Int) + (xn : Int) = (k : Int) by omega]
  exact IntWalk.wrap64_in _ ⟨by omega, by omega⟩
set_option maxRecDepth 100000 in
set_option maxHeartbeats 1000000 in
theorem fIAt (w : World) (W H : Nat) (A : Option Addr) (n c : Nat) (pix : List UInt8) (h : sidesB W H = true) (hn : n = W * H) (hin : BytesIn w A n c pix) (x y : Int) :
    Calls Tryz.prog 150 #[.agg #[.int .i64 (W : Int), .int .i64 (H : Int), .slice A n c], .int .i64 x, .int .i64 y] w fun e w' => e = .returned (.int .i64 ((atN W H pix x y : Nat) : Int)) ∧ Mod (fun _ => False) w w' := by
  obtain ⟨ha, h1, h2, h3, h4, h5⟩ := area_le h
  rw [← hn] at ha h5
  have m0 : Mod (fun _ => False) w (w.alloc (.cells #[.int .i64 (W : Int), .int .i64 (H : Int), .slice A n c] 35)) := (Mod.refl _ _).alloc _
  have hr : atN W H pix x y = atN W H pix x y := rfl
  conv at hr => rhs; unfold atN
  have HR := Lib.hid (And.intro hr m0)
  clear hr m0
  by_cases c1 : x < 0
  · have d1 : decide (x < 0) = true := decide_eq_true c1
    have HR := Lib.hid (And.intro (HR.out.1.trans (if_pos c1)) HR.out.2)
    clear c1 h hin hn
    go_enter Tryz.func150, Tryz.ntmps150
    go_wp2_with fail
    go_ret
    exact ⟨by rw [HR.out.1]; rfl, HR.out.2⟩
  have d1 : decide (x < 0) = false := decide_eq_false c1
  have HR := Lib.hid (And.intro (HR.out.1.trans (if_neg c1)) HR.out.2)
  by_cases c2 : y < 0
  · have d2 : decide (y < 0) = true := decide_eq_true c2
    have HR := Lib.hid (And.intro (HR.out.1.trans (if_pos c2)) HR.out.2)
    clear c1 c2 h hin hn
    go_enter Tryz.func150, Tryz.ntmps150
    go_wp2_with fail
    go_ret
    exact ⟨by rw [HR.out.1]; rfl, HR.out.2⟩
  have d2 : decide (y < 0) = false := decide_eq_false c2
  have HR := Lib.hid (And.intro (HR.out.1.trans (if_neg c2)) HR.out.2)
  by_cases c3 : (W : Int) ≤ x
  · have d3 : decide ((W : Int) ≤ x) = true := decide_eq_true c3
    have HR := Lib.hid (And.intro (HR.out.1.trans (if_pos c3)) HR.out.2)
    clear c1 c2 c3 h hin hn
    go_enter Tryz.func150, Tryz.ntmps150
    go_wp2_with fail
    go_ret
    exact ⟨by rw [HR.out.1]; rfl, HR.out.2⟩
  have d3 : decide ((W : Int) ≤ x) = false := decide_eq_false c3
  have HR := Lib.hid (And.intro (HR.out.1.trans (if_neg c3)) HR.out.2)
  by_cases c4 : (H : Int) ≤ y
  · have d4 : decide ((H : Int) ≤ y) = true := decide_eq_true c4
    have HR := Lib.hid (And.intro (HR.out.1.trans (if_pos c4)) HR.out.2)
    clear c1 c2 c3 c4 h hin hn
    go_enter Tryz.func150, Tryz.ntmps150
    go_wp2_with fail
    go_ret
    exact ⟨by rw [HR.out.1]; rfl, HR.out.2⟩
  have d4 : decide ((H : Int) ≤ y) = false := decide_eq_false c4
  have HR := Lib.hid (And.intro (HR.out.1.trans (if_neg c4)) HR.out.2)
  obtain ⟨xn, rfl⟩ := Int.eq_ofNat_of_zero_le (Int.not_lt.1 c1)
  obtain ⟨yn, rfl⟩ := Int.eq_ofNat_of_zero_le (Int.not_lt.1 c2)
  obtain ⟨b, off, hA, hb, hcell⟩ := hin.place (by omega)
  subst hA
  obtain ⟨m, hm⟩ : ∃ m, m = yn * W := ⟨_, rfl⟩
  have hml : m + xn < n := by
    have h6 : (yn + 1) * W ≤ H * W := Nat.mul_le_mul_right W (by omega)
    rw [Nat.add_mul, Nat.one_mul, Nat.mul_comm H W, ← hn, ← hm] at h6
    omega
  have HP : Hid (atN W H pix (xn : Int) (yn : Int) = (pix.getD (m + xn) 0).toNat) := by show _ = _; rw [hm]; exact atN_in W H pix xn yn (by omega) (by omega)
  have k1 : (w.alloc (.cells #[.int .i64 (W : Int), .int .i64 (H : Int), .slice (some ⟨b, off, none⟩) n c] 35)).cell? ⟨b, off + (m + xn), none⟩ = some (.int .u8 ((pix.getD (m + xn) 0).toNat : Int)) := (World.cell?_of_block (HR.out.2.block b hb (fun h => h))).trans (hcell _ hml)
  obtain ⟨k, hk⟩ : ∃ k, k = m + xn := ⟨_, rfl⟩
  rw [← hk] at k1 HP hml
  have n3 : decide (W ≤ xn) = false := decide_eq_false (by omega)
  have n4 : decide (H ≤ yn) = false := decide_eq_false (by omega)
  have he := at_idx hm hk hml ha
  have p1 : (0 : Int) ≤ (k : Int) := Int.natCast_nonneg _
  have p2 : (k : Int) < (n : Int) := Int.ofNat_lt.2 hml
  have x0 : (pix.getD k 0).toNat < 256 := UInt8.toNat_lt _
  generalize (pix.getD k 0).toNat = px at *
  have HM := Lib.hid (And.intro HR.out.2 hn)
  clear hm hcell hin c1 c2 c3 c4 hk hn HR
  go_enter Tryz.func150, Tryz.ntmps150
  go_wp2_with fail
  go_ret
  exact ⟨by rw [HP.out]; rfl, HM.out.1⟩

end Go.Proofs.YteppnjgfebcmjaaGreat

/-
  The reference's intra: sample.
-/
namespace Go.Proofs.YteppnjgfebcmjaaGreat
open Go.RowKit

def SmRel (w : World) (p : Nat) (cs : Array Value) (ab lf : List UInt8) (s15 s16 : Value) (wr : World) : Prop :=
  ∃ k : Nat, k ≤ 8 ∧ s16 = .int .i64 (k : Int) ∧ s15 = .int .i64 ((flS ab lf k : Nat) : Int) ∧ Sat (fun _ => False) w wr [⟨p, 35, cs⟩] []
set_option maxRecDepth 100000 in
set_option maxHeartbeats 1000000 in
theorem fISample (w : World) (W H : Nat) (A : Option Addr) (n c : Nat) (pix : List UInt8) (h : sidesB W H = true) (hn : n = W * H) (hin : BytesIn w A n c pix) (x y m i j : Nat) (hx : x + 8 ≤ W) (hy : y + 8 ≤ H) (hm : m < 4) (hi : i < 8) (hj : j < 8) :
    Calls Tryz.prog 121 #[.agg #[.int .i64 (W : Int), .int .i64 (H : Int), .slice A n c], .int .i64 (x : Int), .int .i64 (y : Int), .int .i64 8, .int .i64 (m : Int), .int .i64 (i : Int), .int .i64 (j : Int)] w fun e w' => e = .returned (.int .u8 ((gsN m (lkAb W pix x y) (lkLf W pix x y) (lkCo W pix x y) i j : Nat) : Int)) ∧ Mod (fun _ => False) w w' := by
  obtain ⟨_, hW1, hW2, hH1, hH2, _⟩ := area_le h
  have HI := Lib.hid (And.intro h (And.intro hn hin))
  clear h hn hin
  have hc : m = 0 ∨ m = 1 ∨ m = 2 ∨ m = 3 := by omega
  have h0 := (Sat.nil (fun _ => False) w).alloc 35 #[.int .i64 (W : Int), .int .i64 (H : Int), .slice A n c] rfl
  have H0 := Lib.hid h0
  clear h0
  rcases hc with rfl | rfl | rfl | rfl
  · go_enter Tryz.func121, Tryz.ntmps121
    go_wp2_with fail
    go_loopw [15, 16] (SmRel w w.heap.size #[.int .i64 (W : Int), .int .i64 (H : Int), .slice A n c] (lkAb W pix x y) (lkLf W pix x y)) (fun _ s _ => 8 - (intOf s).toNat)
    case atStart => exact ⟨0, by omega, rfl, rfl, H0.out⟩
    case round =>
      clear H0
      obtain ⟨k, hk, rfl, rfl, HS⟩ := hrel
      have hfl := flS_le (lkAb W pix x y) (lkLf W pix x y) k
      by_cases hlt : k < 8
      · have d1 : decide ((k : Int) < 8) = true := decide_eq_true (by omega)
        have HS1 := HS.drew
        have hst : flS (lkAb W pix x y) (lkLf W pix x y) (k + 1) = flS (lkAb W pix x y) (lkLf W pix x y) k + (((lkAb W pix x y).getD k 0).toNat + ((lkLf W pix x y).getD k 0).toNat) := rfl
        rw [← atN_ab pix hx hy hlt, ← atN_lf pix hx hy hlt] at hst
        have b1 := atN_lt W H pix ((x : Int) + (k : Int)) ((y : Int) - 1)
        have b2 := atN_lt W H pix ((x : Int) - 1) ((y : Int) + (k : Int))
        have e1 : IntKind.i64.wrap ((x : Int) + (k : Int)) = (x : Int) + (k : Int) := IntWalk.i64_in _ ⟨by omega, by omega⟩
        have e2 : IntKind.i64.wrap ((y : Int) - 1) = (y : Int) - 1 := IntWalk.i64_in _ ⟨by omega, by omega⟩
        have e3 : IntKind.i64.wrap ((x : Int) - 1) = (x : Int) - 1 := IntWalk.i64_in _ ⟨by omega, by omega⟩
        have e4 : IntKind.i64.wrap ((y : Int) + (k : Int)) = (y : Int) + (k : Int) := IntWalk.i64_in _ ⟨by omega, by omega⟩
        obtain ⟨z, hz⟩ : ∃ z, z = flS (lkAb W pix x y) (lkLf W pix x y) k := ⟨_, rfl⟩
        rw [← hz] at hfl hst ⊢
        have HK := Lib.hid (And.intro HS hst)
        have HE := Lib.hid (And.intro e1 (And.intro e2 (And.intro e3 e4)))
        clear HS hst hz e1 e2 e3 e4
        go_upto_region 7 with (fail)
        obtain ⟨e1, e2, e3, e4⟩ := HE.out
        go_region_held3 (fun w' => w'.cell? ⟨w.heap.size, 0, none⟩ = some (.int .i64 (W : Int)) ∧ w'.cell? ⟨w.heap.size, 1, none⟩ = some (.int .i64 (H : Int)) ∧ w'.cell? ⟨w.heap.size, 2, none⟩ = some (.slice A n c)) (first | exact pl_cells (HS1.own_ 0 rfl) | exact pl_cells (HK.out.1.own_ 0 rfl)) (first | (go_at_call 150; refine (fIAt _ W H A n c pix HI.out.1 HI.out.2.1 (HI.out.2.2.quiet HS1.mod) _ _).mono ?_; rintro e w2 ⟨rfl, hm2⟩; have HS1 := HS1.quiet hm2; clear hm2))
        have H1 := Lib.hid HS1
        clear HS1 e1 e2 e3 e4
        generalize atN W H pix ((x : Int) + (k : Int)) ((y : Int) - 1) = u at *
        generalize atN W H pix ((x : Int) - 1) ((y : Int) + (k : Int)) = v at *
        rw [IntWalk.i64_in ((z : Int) + (u : Int)) ⟨by omega, by omega⟩, IntWalk.i64_in ((z : Int) + (u : Int) + (v : Int)) ⟨by omega, by omega⟩]
        go_wp2_with fail
        go_roundw
        case rel =>
          (repeat apply Exists.intro)
          exact ⟨⟨k + 1, by omega, by go_num, by rw [HK.out.2]; go_num, H1.out⟩, rfl⟩
        case measure => simp [intOf]; omega
      · obtain rfl : k = 8 := by omega
        have HK := Lib.hid HS
        clear HS
        obtain ⟨z, hz⟩ : ∃ z, z = flS (lkAb W pix x y) (lkLf W pix x y) 8 := ⟨_, rfl⟩
        rw [← hz] at hfl ⊢
        have HZ := Lib.hid hz
        clear hz
        go_wp2_with fail
        go_ret
        refine ⟨congrArg (fun z => Ending.returned (.int .u8 z)) ?_, HK.out.mod⟩
        show _ = ((flatN (lkAb W pix x y) (lkLf W pix x y) : Nat) : Int)
        unfold flatN
        rw [← HZ.out]
        omega
  · have ha := atN_ab pix hx hy hi
    have hl := atN_lt W H pix ((x : Int) + (i : Int)) ((y : Int) - 1)
    have HA := Lib.hid ha
    clear ha
    go_enter Tryz.func121, Tryz.ntmps121
    go_wp2_with fail
    refine (fIAt _ W H A n c pix HI.out.1 HI.out.2.1 (HI.out.2.2.quiet H0.out.mod) _ _).mono ?_
    rintro e w2 ⟨rfl, hm2⟩
    have HS2 := Lib.hid (H0.out.quiet hm2)
    clear hm2
    generalize hg : atN W H pix ((x : Int) + (i : Int)) ((y : Int) - 1) = u at *
    have HG := Lib.hid hg
    clear hg
    go_wp2_with fail
    go_ret
    exact ⟨by show _ = Ending.returned (.int .u8 ((((lkAb W pix x y).getD i 0).toNat : Nat) : Int)); rw [← HA.out]; rfl, HS2.out.mod⟩
  · have ha := atN_lf pix hx hy hj
    have hl := atN_lt W H pix ((x : Int) - 1) ((y : Int) + (j : Int))
    have HA := Lib.hid ha
    clear ha
    go_enter Tryz.func121, Tryz.ntmps121
    go_wp2_with fail
    refine (fIAt _ W H A n c pix HI.out.1 HI.out.2.1 (HI.out.2.2.quiet H0.out.mod) _ _).mono ?_
    rintro e w2 ⟨rfl, hm2⟩
    have HS2 := Lib.hid (H0.out.quiet hm2)
    clear hm2
    generalize hg : atN W H pix ((x : Int) - 1) ((y : Int) + (j : Int)) = u at *
    have HG := Lib.hid hg
    clear hg
    go_wp2_with fail
    go_ret
    exact ⟨by show _ = Ending.returned (.int .u8 ((((lkLf W pix x y).getD j 0).toNat : Nat) : Int)); rw [← HA.out]; rfl, HS2.out.mod⟩
  · have hst : gsN 3 (lkAb W pix x y) (lkLf W pix x y) (lkCo W pix x y) i j = clipN ((((lkAb W pix x y).getD i 0).toNat : Int) + (((lkLf W pix x y).getD j 0).toNat : Int) - ((lkCo W pix x y).toNat : Int)) := rfl
    rw [← atN_ab pix hx hy hi, ← atN_lf pix hx hy hj, ← atN_co pix hx hy] at hst
    have b1 := atN_lt W H pix ((x : Int) + (i : Int)) ((y : Int) - 1)
    have b2 := atN_lt W H pix ((x : Int) - 1) ((y : Int) + (j : Int))
    have b3 := atN_lt W H pix ((x : Int) - 1) ((y : Int) - 1)
    have e1 : IntKind.i64.wrap ((x : Int) + (i : Int)) = (x : Int) + (i : Int) := IntWalk.i64_in _ ⟨by omega, by omega⟩
    have e2 : IntKind.i64.wrap ((y : Int) - 1) = (y : Int) - 1 := IntWalk.i64_in _ ⟨by omega, by omega⟩
    have e3 : IntKind.i64.wrap ((x : Int) - 1) = (x : Int) - 1 := IntWalk.i64_in _ ⟨by omega, by omega⟩
    have e4 : IntKind.i64.wrap ((y : Int) + (j : Int)) = (y : Int) + (j : Int) := IntWalk.i64_in _ ⟨by omega, by omega⟩
    have e5 : IntKind.i64.wrap ((atN W H pix ((x : Int) + (i : Int)) ((y : Int) - 1) : Int) + (atN W H pix ((x : Int) - 1) ((y : Int) + (j : Int)) : Int)) = (atN W H pix ((x : Int) + (i : Int)) ((y : Int) - 1) : Int) + (atN W H pix ((x : Int) - 1) ((y : Int) + (j : Int)) : Int) := IntWalk.i64_in _ ⟨by omega, by omega⟩
    have e6 : IntKind.i64.wrap ((atN W H pix ((x : Int) + (i : Int)) ((y : Int) - 1) : Int) + (atN W H pix ((x : Int) - 1) ((y : Int) + (j : Int)) : Int) - (atN W H pix ((x : Int) - 1) ((y : Int) - 1) : Int)) = (atN W H pix ((x : Int) + (i : Int)) ((y : Int) - 1) : Int) + (atN W H pix ((x : Int) - 1) ((y : Int) + (j : Int)) : Int) - (atN W H pix ((x : Int) - 1) ((y : Int) - 1) : Int) := IntWalk.i64_in _ ⟨by omega, by omega⟩
    have HK := Lib.hid hst
    have HE := Lib.hid (And.intro e1 (And.intro e2 (And.intro e3 (And.intro e4 (And.intro e5 e6)))))
    clear hst e1 e2 e3 e4 e5 e6
    have HS1 := H0.out.drew
    go_enter Tryz.func121, Tryz.ntmps121
    go_upto_region 13 with (fail)
    obtain ⟨e1, e2, e3, e4, e5, e6⟩ := HE.out
    go_region_held3 (fun w' => w'.cell? ⟨w.heap.size, 0, none⟩ = some (.int .i64 (W : Int)) ∧ w'.cell? ⟨w.heap.size, 1, none⟩ = some (.int .i64 (H : Int)) ∧ w'.cell? ⟨w.heap.size, 2, none⟩ = some (.slice A n c)) (first | exact pl_cells (HS1.own_ 0 rfl) | exact pl_cells (H0.out.own_ 0 rfl)) (first
      | (go_at_call 150; refine (fIAt _ W H A n c pix HI.out.1 HI.out.2.1 (HI.out.2.2.quiet HS1.mod) _ _).mono ?_; rintro e w2 ⟨rfl, hm2⟩; have HS1 := HS1.quiet hm2; clear hm2)
      | (go_at_call 96; refine (rclip_any _ _).mono ?_; rintro e w3 ⟨rfl, rfl⟩))
    have H1 := Lib.hid HS1
    clear HS1 e1 e2 e3 e4 e5 e6
    go_wp2_with fail
    go_ret
    exact ⟨by rw [HK.out]; rfl, H1.out.mod⟩
end Go.Proofs.YteppnjgfebcmjaaGreat
