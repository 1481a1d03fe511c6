/-
  The reference's clip and Clip.
-/
import Derived.Test.YteppnjgfebcmjaaGreatClip
namespace Go.Proofs.YteppnjgfebcmjaaGreat
open Go.RowKit

theorem rclip_any (w : World) (v : Int) : Calls Tryz.prog 96 #[.int .i64 v] w fun e w' => e = .returned (.int .u8 ((clipN v : Nat) : Int)) ∧ w = w' := by
  unfold clipN
  by_cases h1 : v < 0
  · rw [if_pos h1]
    go_enter Tryz.func96, Tryz.ntmps96
    go_wp2_with fail
    go_ret
    exact ⟨rfl, rfl⟩
  · rw [if_neg h1]
    by_cases h2 : 255 < v
    · rw [if_pos h2]
      go_enter Tryz.func96, Tryz.ntmps96
      go_wp2_with fail
      go_ret
      exact ⟨rfl, rfl⟩
    · rw [if_neg h2]
      have e3 : v % 256 = ((v.toNat : Nat) : Int) := by omega
      have e4 : v = ((v.toNat : Nat) : Int) := by omega
      generalize v.toNat = n at *
      subst e4
      clear e3
      go_enter Tryz.func96, Tryz.ntmps96
      go_wp2_with fail
      go_ret
      exact ⟨rfl, rfl⟩
theorem clipL_at (g : List UInt8) (r : List Int) : clipL g r = (List.range g.length).map fun i => UInt8.ofNat (clipAt g r i) := by
  unfold clipL cpL
  refine List.map_congr_left fun i hi => ?_
  rw [if_pos (List.mem_range.1 hi)]
def clipTo (g : List UInt8) (r : List Int) (k : Nat) : List UInt8 := (List.range k).map fun i => UInt8.ofNat (clipAt g r i)
theorem clipTo_succ (g : List UInt8) (r : List Int) (k : Nat) : clipTo g r (k + 1) = clipTo g r k ++ [UInt8.ofNat (clipAt g r k)] := by simp [clipTo, List.range_succ]
def RClipRel (w : World) (g : List UInt8) (r : List Int) (v i : Value) (wr : World) : Prop :=
  ∃ k : Nat, k ≤ g.length ∧ i = .int .i64 k ∧ Bytes wr w.heap.size v (clipTo g r k) ∧ Mod (fun _ => False) w wr
theorem clipN_hi (v : Int) (h : 255 ≤ v) : clipN v = 255 := by unfold clipN; rw [if_neg (by omega)]; split <;> omega
theorem clipN_lo (v : Int) (h : v ≤ 0) : clipN v = 0 := by unfold clipN; split; rfl; rw [if_neg (by omega)]; omega
theorem clip300 (x : Nat) (y : Int) (hx : x < 256) : clipN ((x : Int) + min (max y (-255)) 255) = clipN ((x : Int) + min (max y (-300)) 300) := by
  by_cases h1 : y < -255
  · rw [clipN_lo _ (by omega), clipN_lo _ (by omega)]
  · by_cases h2 : 255 < y
    · rw [clipN_hi _ (by omega), clipN_hi _ (by omega)]
    · rw [show min (max y (-255)) 255 = y by omega, show min (max y (-300)) 300 = y by omega]

set_option maxRecDepth 100000 in
set_option maxHeartbeats 4000000 in
theorem rclipAll (w : World) (A : Option Addr) (n c : Nat) (g : List UInt8) (A2 : Option Addr) (c2 : Nat) (r : List Int) (hin : BytesIn w A n c g) (hin2 : IntsIn w A2 n c2 r) (hn0 : 0 < n) (hn : n ≤ 1048576) :
    Calls Tryz.prog 42 #[.slice A n c, .slice A2 n c2] w fun e w' => ∃ v, e = .returned v ∧ Bytes w' w.heap.size v (clipL g r) ∧ Mod (fun _ => False) w w' := by
  obtain ⟨i0, hi0, hz0, hz1, hz2⟩ := info_parts u8_info
  obtain rfl : g.length = n := hin.1
  obtain ⟨b, off, rfl, hb, hc⟩ := hin.place hn0
  obtain ⟨b2, off2, rfl, hb2, hc2⟩ := hin2.place hn0
  have HC := Lib.hid (And.intro hc hc2)
  clear hc hc2 hin hin2
  go_enter Tryz.func42, Tryz.ntmps42
  go_wp2_with fail
  go_loopw [5, 6] (RClipRel w g r) (fun _ i _ => g.length - (intOf i).toNat)
  case atStart => exact ⟨0, by omega, rfl, World.ownsRow_nil _ _ _ _, Mod.refl _ _⟩
  case round =>
    obtain ⟨k, hk, rfl, hrow, hM⟩ := hrel
    by_cases hlt : k < g.length
    · have hck : wr.cell? ⟨b, off + k, none⟩ = some (.int .u8 ((g.getD k 0).toNat : Int)) := (World.cell?_of_block (hM.block b hb (fun h => h))).trans (HC.out.1 k hlt)
      have hck2 : wr.cell? ⟨b2, off2 + k, none⟩ = some (.int .i64 (r.getD k 0)) := (World.cell?_of_block (hM.block b2 hb2 (fun h => h))).trans (HC.out.2 k hlt)
      have hx : (g.getD k 0).toNat < 256 := UInt8.toNat_lt _
      have HFA : Hid (clipAt g r k = clipN (((g.getD k 0).toNat : Int) + min (max (r.getD k 0) (-300)) 300)) := clip300 _ _ hx
      generalize (g.getD k 0).toNat = x at *
      generalize r.getD k 0 = y at *
      have i1 : (0 : Int) ≤ (k : Int) := by omega
      have i2 : (k : Int) < (g.length : Int) := by omega
      obtain ⟨A5, c5, hv5⟩ := own_shape hrow
      subst hv5
      have hlk : (clipTo g r k).length = k := by simp [clipTo]
      have hwl := World.block_lt_of_cell? _ _ hck
      have hwl2 := World.block_lt_of_cell? _ _ hck2
      have hrow' : wr.ownsRow w.heap.size 5 1 (.slice A5 k c5) k (u8s (clipTo g r k)) := by
        unfold Bytes at hrow
        rwa [hlk] at hrow
      have HB := Lib.hid (And.intro hrow' hM)
      rw [hlk]
      clear hlk hrow hrow' hM
      obtain ⟨z, hz, hz2'⟩ : ∃ z, z = min (max y (-300)) 300 ∧ -300 ≤ z ∧ z ≤ 300 := ⟨_, rfl, by omega, by omega⟩
      rw [← hz] at HFA
      have y1 : IntKind.i64.wrap ((x : Int) + z) = (x : Int) + z := IntWalk.i64_in _ ⟨by omega, by omega⟩
      have q1 : k + 1 ≤ maxLen := by unfold maxLen; omega
      have q2 : (k + 1) * 1 ≤ 140737488355328 := by omega
      have q3 : ∀ o, w.heap.size ≤ ((wr.drew).alloc o).heap.size := fun o => by have := HB.out.2.size; simp; omega
      have q4 : ¬ (Value.slice A5 k c5).ownBlock = some b := fun e => by have := (HB.out.1.lt b e).1; omega
      have q5 : ¬ (Value.slice A5 k c5).ownBlock = some b2 := fun e => by have := (HB.out.1.lt b2 e).1; omega
      have HX := Lib.hid (And.intro q1 (And.intro q2 (And.intro (q3 (.cells #[.int .u8 ((clipN ((x : Int) + z) : Nat) : Int)] 5)) (And.intro q4 q5))))
      clear q1 q2 q3 q4 q5
      have hy : y < -300 ∨ 300 < y ∨ (-300 ≤ y ∧ y ≤ 300) := by omega
      have hy' : y < -300 ∨ (¬ y < -300 ∧ 300 < y) ∨ (¬ y < -300 ∧ ¬ 300 < y) := by omega
      clear hy
      rcases hy' with hy | ⟨hy1, hy2⟩ | ⟨hy1, hy2⟩
      · have ez : (x : Int) + -300 = (x : Int) + z := by omega
        have y2 : IntKind.i64.wrap (IntKind.i64.wrap (x : Int) + -300) = (x : Int) + z := by rw [IntWalk.i64_in (x : Int) ⟨by omega, by omega⟩, ez]; exact y1
        have HV : Hid (clipN ((x : Int) + z) = clipAt g r k) := HFA.out.symm
        have hcn := clipN_lt ((x : Int) + z)
        clear ez hz y1 HFA
        go_upto_region 7 with (fail)
        have ka : ((wr.drew).alloc (.cells #[.int .u8 ((clipN ((x : Int) + z) : Nat) : Int)] 5)).cell? ⟨b, off + k, none⟩ = some (.int .u8 (x : Int)) ∧ ((wr.drew).alloc (.cells #[.int .u8 ((clipN ((x : Int) + z) : Nat) : Int)] 5)).cell? ⟨b2, off2 + k, none⟩ = some (.int .i64 y) := ⟨(World.cell?_alloc_lt _ _ _ hwl).trans hck, (World.cell?_alloc_lt _ _ _ hwl2).trans hck2⟩
        go_region_held3 (fun w' => w'.cell? ⟨b, off + k, none⟩ = some (.int .u8 (x : Int)) ∧ w'.cell? ⟨b2, off2 + k, none⟩ = some (.int .i64 y)) (first | exact ⟨hck, hck2⟩ | exact ka | exact kb) (first
          | (go_at_call 96; refine (rclip_any _ _).mono ?_; rintro e w3 ⟨rfl, rfl⟩)
          | (refine step_append_src _ (by rfl) _ _ _ (by rfl) w.heap.size 5 i0 _ 1 1 Tryz.underlying22 hi0 hz0 hz1 hz2 rfl (by omega) (.slice A5 k c5) k (u8s (clipTo g r k)) (by rfl) (own_mod HB.out.1 (((Mod.refl (fun _ => False) wr).drew).alloc _) (fun _ _ h => h)) (some ⟨wr.heap.size, 0, none⟩) 1 1 [.int .u8 ((clipN ((x : Int) + z) : Nat) : Int)] (by rfl) (Src.new wr.drew 5 [.int .u8 ((clipN ((x : Int) + z) : Nat) : Int)]) (fun h => by cases h) (fun u hu => by rw [List.mem_singleton.1 hu]; rfl) HX.out.1 HX.out.2.1 HX.out.2.2.1 ?_; intro v4 w4 hown4 hg4 hat4; have Ma : Mod (fun j => (Value.slice A5 k c5).ownBlock = some j) wr w4 := (((Mod.refl _ _).drew).alloc _).grown hg4 (fun j hj => .inl hj); have kb : w4.cell? ⟨b, off + k, none⟩ = some (.int .u8 (x : Int)) ∧ w4.cell? ⟨b2, off2 + k, none⟩ = some (.int .i64 y) := ⟨(World.cell?_of_block (Ma.block b hwl HX.out.2.2.2.1)).trans hck, (World.cell?_of_block (Ma.block b2 hwl2 HX.out.2.2.2.2)).trans hck2⟩; have HO := Lib.hid (And.intro hown4 Ma); clear hown4 hg4 hat4 Ma))
        go_wp2_with fail
        go_roundw
        case rel =>
          obtain ⟨hown4, Ma⟩ := HO.out
          refine ⟨k + 1, by omega, by go_num, ?_, HB.out.2.into Ma (fun i e => .inr (HB.out.1.lt i e).1)⟩
          have e8 : u8s (clipTo g r (k + 1)) = u8s (clipTo g r k) ++ [.int .u8 ((clipN ((x : Int) + z) : Nat) : Int)] := by
            have e9 : (UInt8.ofNat (clipAt g r k)).toNat = clipN ((x : Int) + z) := by rw [← HV.out, UInt8.toNat_ofNat']; omega
            rw [clipTo_succ]
            simp [u8s, e9]
          unfold Bytes
          rw [e8, show (clipTo g r (k + 1)).length = k + 1 by simp [clipTo]]
          exact hown4
        case measure => simp [intOf]; omega
      · have ez : (x : Int) + 300 = (x : Int) + z := by omega
        have y2 : IntKind.i64.wrap (IntKind.i64.wrap (x : Int) + 300) = (x : Int) + z := by rw [IntWalk.i64_in (x : Int) ⟨by omega, by omega⟩, ez]; exact y1
        have HV : Hid (clipN ((x : Int) + z) = clipAt g r k) := HFA.out.symm
        have hcn := clipN_lt ((x : Int) + z)
        clear ez hz y1 HFA
        go_upto_region 7 with (fail)
        have ka : ((wr.drew).alloc (.cells #[.int .u8 ((clipN ((x : Int) + z) : Nat) : Int)] 5)).cell? ⟨b, off + k, none⟩ = some (.int .u8 (x : Int)) ∧ ((wr.drew).alloc (.cells #[.int .u8 ((clipN ((x : Int) + z) : Nat) : Int)] 5)).cell? ⟨b2, off2 + k, none⟩ = some (.int .i64 y) := ⟨(World.cell?_alloc_lt _ _ _ hwl).trans hck, (World.cell?_alloc_lt _ _ _ hwl2).trans hck2⟩
        go_region_held3 (fun w' => w'.cell? ⟨b, off + k, none⟩ = some (.int .u8 (x : Int)) ∧ w'.cell? ⟨b2, off2 + k, none⟩ = some (.int .i64 y)) (first | exact ⟨hck, hck2⟩ | exact ka | exact kb) (first
          | (go_at_call 96; refine (rclip_any _ _).mono ?_; rintro e w3 ⟨rfl, rfl⟩)
          | (refine step_append_src _ (by rfl) _ _ _ (by rfl) w.heap.size 5 i0 _ 1 1 Tryz.underlying22 hi0 hz0 hz1 hz2 rfl (by omega) (.slice A5 k c5) k (u8s (clipTo g r k)) (by rfl) (own_mod HB.out.1 (((Mod.refl (fun _ => False) wr).drew).alloc _) (fun _ _ h => h)) (some ⟨wr.heap.size, 0, none⟩) 1 1 [.int .u8 ((clipN ((x : Int) + z) : Nat) : Int)] (by rfl) (Src.new wr.drew 5 [.int .u8 ((clipN ((x : Int) + z) : Nat) : Int)]) (fun h => by cases h) (fun u hu => by rw [List.mem_singleton.1 hu]; rfl) HX.out.1 HX.out.2.1 HX.out.2.2.1 ?_; intro v4 w4 hown4 hg4 hat4; have Ma : Mod (fun j => (Value.slice A5 k c5).ownBlock = some j) wr w4 := (((Mod.refl _ _).drew).alloc _).grown hg4 (fun j hj => .inl hj); have kb : w4.cell? ⟨b, off + k, none⟩ = some (.int .u8 (x : Int)) ∧ w4.cell? ⟨b2, off2 + k, none⟩ = some (.int .i64 y) := ⟨(World.cell?_of_block (Ma.block b hwl HX.out.2.2.2.1)).trans hck, (World.cell?_of_block (Ma.block b2 hwl2 HX.out.2.2.2.2)).trans hck2⟩; have HO := Lib.hid (And.intro hown4 Ma); clear hown4 hg4 hat4 Ma))
        go_wp2_with fail
        go_roundw
        case rel =>
          obtain ⟨hown4, Ma⟩ := HO.out
          refine ⟨k + 1, by omega, by go_num, ?_, HB.out.2.into Ma (fun i e => .inr (HB.out.1.lt i e).1)⟩
          have e8 : u8s (clipTo g r (k + 1)) = u8s (clipTo g r k) ++ [.int .u8 ((clipN ((x : Int) + z) : Nat) : Int)] := by
            have e9 : (UInt8.ofNat (clipAt g r k)).toNat = clipN ((x : Int) + z) := by rw [← HV.out, UInt8.toNat_ofNat']; omega
            rw [clipTo_succ]
            simp [u8s, e9]
          unfold Bytes
          rw [e8, show (clipTo g r (k + 1)).length = k + 1 by simp [clipTo]]
          exact hown4
        case measure => simp [intOf]; omega
      · have ez : (x : Int) + y = (x : Int) + z := by omega
        have y2 : IntKind.i64.wrap (IntKind.i64.wrap (x : Int) + y) = (x : Int) + z := by rw [IntWalk.i64_in (x : Int) ⟨by omega, by omega⟩, ez]; exact y1
        have HV : Hid (clipN ((x : Int) + z) = clipAt g r k) := HFA.out.symm
        have hcn := clipN_lt ((x : Int) + z)
        clear ez hz y1 HFA
        go_upto_region 7 with (fail)
        have ka : ((wr.drew).alloc (.cells #[.int .u8 ((clipN ((x : Int) + z) : Nat) : Int)] 5)).cell? ⟨b, off + k, none⟩ = some (.int .u8 (x : Int)) ∧ ((wr.drew).alloc (.cells #[.int .u8 ((clipN ((x : Int) + z) : Nat) : Int)] 5)).cell? ⟨b2, off2 + k, none⟩ = some (.int .i64 y) := ⟨(World.cell?_alloc_lt _ _ _ hwl).trans hck, (World.cell?_alloc_lt _ _ _ hwl2).trans hck2⟩
        go_region_held3 (fun w' => w'.cell? ⟨b, off + k, none⟩ = some (.int .u8 (x : Int)) ∧ w'.cell? ⟨b2, off2 + k, none⟩ = some (.int .i64 y)) (first | exact ⟨hck, hck2⟩ | exact ka | exact kb) (first
          | (go_at_call 96; refine (rclip_any _ _).mono ?_; rintro e w3 ⟨rfl, rfl⟩)
          | (refine step_append_src _ (by rfl) _ _ _ (by rfl) w.heap.size 5 i0 _ 1 1 Tryz.underlying22 hi0 hz0 hz1 hz2 rfl (by omega) (.slice A5 k c5) k (u8s (clipTo g r k)) (by rfl) (own_mod HB.out.1 (((Mod.refl (fun _ => False) wr).drew).alloc _) (fun _ _ h => h)) (some ⟨wr.heap.size, 0, none⟩) 1 1 [.int .u8 ((clipN ((x : Int) + z) : Nat) : Int)] (by rfl) (Src.new wr.drew 5 [.int .u8 ((clipN ((x : Int) + z) : Nat) : Int)]) (fun h => by cases h) (fun u hu => by rw [List.mem_singleton.1 hu]; rfl) HX.out.1 HX.out.2.1 HX.out.2.2.1 ?_; intro v4 w4 hown4 hg4 hat4; have Ma : Mod (fun j => (Value.slice A5 k c5).ownBlock = some j) wr w4 := (((Mod.refl _ _).drew).alloc _).grown hg4 (fun j hj => .inl hj); have kb : w4.cell? ⟨b, off + k, none⟩ = some (.int .u8 (x : Int)) ∧ w4.cell? ⟨b2, off2 + k, none⟩ = some (.int .i64 y) := ⟨(World.cell?_of_block (Ma.block b hwl HX.out.2.2.2.1)).trans hck, (World.cell?_of_block (Ma.block b2 hwl2 HX.out.2.2.2.2)).trans hck2⟩; have HO := Lib.hid (And.intro hown4 Ma); clear hown4 hg4 hat4 Ma))
        go_wp2_with fail
        go_roundw
        case rel =>
          obtain ⟨hown4, Ma⟩ := HO.out
          refine ⟨k + 1, by omega, by go_num, ?_, HB.out.2.into Ma (fun i e => .inr (HB.out.1.lt i e).1)⟩
          have e8 : u8s (clipTo g r (k + 1)) = u8s (clipTo g r k) ++ [.int .u8 ((clipN ((x : Int) + z) : Nat) : Int)] := by
            have e9 : (UInt8.ofNat (clipAt g r k)).toNat = clipN ((x : Int) + z) := by rw [← HV.out, UInt8.toNat_ofNat']; omega
            rw [clipTo_succ]
            simp [u8s, e9]
          unfold Bytes
          rw [e8, show (clipTo g r (k + 1)).length = k + 1 by simp [clipTo]]
          exact hown4
        case measure => simp [intOf]; omega
    · obtain rfl : k = g.length := by omega
      have HB := Lib.hid (And.intro hrow hM)
      obtain ⟨A5, c5, hv5⟩ := own_shape hrow
      subst hv5
      clear hrow hM
      go_wp2_with fail
      go_ret
      refine ⟨_, rfl, ?_, HB.out.2⟩
      rw [clipL_at]
      exact HB.out.1
end Go.Proofs.YteppnjgfebcmjaaGreat
