/-
  Frames in memory; plane.Blank.
-/
import Derived.Test.YtmkopcojnibhlaaGreatDoorM13
import Derived.Test.YtmkopcojnibhlaaGreatDoorM12
import Derived.Test.YtmkopcojnibhlaaGreatDoorM11
namespace Go.Proofs.YtmkopcojnibhlaaGreatDoor
open Go.RowKit

/-- Sides of a frame, halves, sizes. -/
structure Dim where
  W : Nat
  H : Nat
  W2 : Nat
  H2 : Nat
  nY : Nat
  nC : Nat
structure Dim.Ok (d : Dim) : Prop where
  sides : sidesB d.W d.H = true
  w16 : d.W % 16 = 0
  h16 : d.H % 16 = 0
  w2 : d.W = 2 * d.W2
  h2 : d.H = 2 * d.H2
  ny : d.nY = d.W * d.H
  nc : d.nC = d.W2 * d.H2
theorem Dim.Ok.half {d : Dim} (h : d.Ok) : sidesB d.W2 d.H2 = true := by
  have a := h.sides
  unfold sidesB at *
  rw [decide_eq_true_eq] at *
  have := h.w16; have := h.h16; have := h.w2; have := h.h2
  omega
def frameV (d : Dim) (gy gu gv : Nat) : List Value :=
  [.int .i64 (d.W : Int), .int .i64 (d.H : Int), .slice (some ⟨gy, 0, none⟩) d.nY d.nY, .int .i64 (d.W2 : Int), .int .i64 (d.H2 : Int), .slice (some ⟨gu, 0, none⟩) d.nC d.nC, .int .i64 (d.W2 : Int), .int .i64 (d.H2 : Int), .slice (some ⟨gv, 0, none⟩) d.nC d.nC]
/-- The samples of a frame. -/
structure Pix where
  Y : List UInt8
  U : List UInt8
  V : List UInt8
structure FrameAt (w : World) (d : Dim) (gy gu gv : Nat) (f : Pix) : Prop where
  by_ : Blk w gy 5 (u8s f.Y).toArray
  bu : Blk w gu 5 (u8s f.U).toArray
  bv : Blk w gv 5 (u8s f.V).toArray
  ly : f.Y.length = d.nY
  lu : f.U.length = d.nC
  lv : f.V.length = d.nC
  yu : gy ≠ gu
  yv : gy ≠ gv
  uv : gu ≠ gv
theorem FrameAt.mod {w w' : World} {S : Nat → Prop} {d : Dim} {gy gu gv : Nat} {f : Pix} (h : FrameAt w d gy gu gv f) (hm : Mod S w w') (h1 : ¬ S gy) (h2 : ¬ S gu) (h3 : ¬ S gv) : FrameAt w' d gy gu gv f :=
  ⟨h.by_.keep hm h1, h.bu.keep hm h2, h.bv.keep hm h3, h.ly, h.lu, h.lv, h.yu, h.yv, h.uv⟩
theorem FrameAt.quiet {w w' : World} {d : Dim} {gy gu gv : Nat} {f : Pix} (h : FrameAt w d gy gu gv f) (hm : Mod (fun _ => False) w w') : FrameAt w' d gy gu gv f := h.mod hm (fun h => h) (fun h => h) (fun h => h)
def blankPix (d : Dim) (v : UInt8) : Pix := ⟨List.replicate d.nY v, List.replicate d.nC v, List.replicate d.nC v⟩
def FrameMade (w : World) (d : Dim) (f : Pix) (v : Value) (w' : World) : Prop :=
  ∃ gy gu gv, v = .agg (frameV d gy gu gv).toArray ∧ FrameAt w' d gy gu gv f ∧ w.heap.size ≤ gy ∧ w.heap.size ≤ gu ∧ w.heap.size ≤ gv
def BlankPost (w : World) (d : Dim) (v : UInt8) (e : Ending) (w' : World) : Prop := ∃ p, e = .returned (.tuple #[p, .int .i64 0]) ∧ FrameMade w d (blankPix d v) p w' ∧ Mod (fun _ => False) w w'
def NewPlane' (w : World) (W H n : Nat) (v : UInt8) (e : Ending) (w' : World) : Prop :=
  ∃ g, e = .returned (.tuple #[.agg #[.int .i64 (W : Int), .int .i64 (H : Int), .slice (some ⟨g, 0, none⟩) n n], .int .i64 0]) ∧ Blk w' g 5 (u8s (List.replicate n v)).toArray ∧ w.heap.size ≤ g ∧ Mod (fun _ => False) w w'
theorem pNew' (w : World) (W H n : Nat) (v : UInt8) (h : sidesB W H = true) (hn : n = W * H) : Calls Tryz.prog 84 #[.int .i64 (W : Int), .int .i64 (H : Int), .int .u8 (v.toNat : Int)] w (NewPlane' w W H n v) := by
  refine (pNew w W H v h).mono ?_
  rintro e w' ⟨p, rfl, ⟨g, rfl, hb, _, hg⟩, hm⟩
  rw [← hn] at hb ⊢
  exact ⟨g, rfl, hb, hg, hm⟩

set_option maxRecDepth 100000 in
set_option maxHeartbeats 4000000 in
theorem pBlank (w : World) (d : Dim) (hd : d.Ok) (v : UInt8) : Calls Tryz.prog 41 #[.int .i64 (d.W : Int), .int .i64 (d.H : Int), .int .u8 (v.toNat : Int)] w (BlankPost w d v) := by
  have hh := hd.half
  obtain ⟨a1, a2, a3, a4, a5, a6⟩ := area_le hd.sides
  have hw16 := hd.w16
  have hh16 := hd.h16
  have m1 : ((d.W : Int) % 16 != 0) = false := by simp; omega
  have m2 : ((d.H : Int) % 16 != 0) = false := by simp; omega
  have q1 : (d.W : Int) / 2 = (d.W2 : Int) := by have := hd.w2; omega
  have q2 : (d.H : Int) / 2 = (d.H2 : Int) := by have := hd.h2; omega
  have HD := Lib.hid (And.intro hd (And.intro hh (And.intro q1 q2)))
  clear hd hh hw16 hh16 q1 q2 a1 a6
  go_enter Tryz.func41, Tryz.ntmps41
  go_wp2_with fail
  refine (pSides_yes _ d.W d.H HD.out.1.sides).mono ?_
  rintro e w1 ⟨rfl, rfl⟩
  go_wp2_with fail
  have hr0 : Blk ((w.alloc (.cells #[.int .i64 0, .int .i64 0, .slice none 0 0, .int .i64 0, .int .i64 0, .slice none 0 0, .int .i64 0, .int .i64 0, .slice none 0 0] 40)).alloc (.cells #[.int .i64 0, .int .i64 0, .slice none 0 0, .int .i64 0, .int .i64 0, .slice none 0 0, .int .i64 0, .int .i64 0, .slice none 0 0] 40)) w.heap.size 40 #[.int .i64 0, .int .i64 0, .slice none 0 0, .int .i64 0, .int .i64 0, .slice none 0 0, .int .i64 0, .int .i64 0, .slice none 0 0] := (Blk.new _ _ _).alloc _
  have hf0 : Blk ((w.alloc (.cells #[.int .i64 0, .int .i64 0, .slice none 0 0, .int .i64 0, .int .i64 0, .slice none 0 0, .int .i64 0, .int .i64 0, .slice none 0 0] 40)).alloc (.cells #[.int .i64 0, .int .i64 0, .slice none 0 0, .int .i64 0, .int .i64 0, .slice none 0 0, .int .i64 0, .int .i64 0, .slice none 0 0] 40)) (w.heap.size + 1) 40 #[.int .i64 0, .int .i64 0, .slice none 0 0, .int .i64 0, .int .i64 0, .slice none 0 0, .int .i64 0, .int .i64 0, .slice none 0 0] := by
    have h := Blk.new (w.alloc (.cells #[.int .i64 0, .int .i64 0, .slice none 0 0, .int .i64 0, .int .i64 0, .slice none 0 0, .int .i64 0, .int .i64 0, .slice none 0 0] 40)) 40 #[.int .i64 0, .int .i64 0, .slice none 0 0, .int .i64 0, .int .i64 0, .slice none 0 0, .int .i64 0, .int .i64 0, .slice none 0 0]
    simpa using h
  have M0 : Mod (fun _ => False) w ((w.alloc (.cells #[.int .i64 0, .int .i64 0, .slice none 0 0, .int .i64 0, .int .i64 0, .slice none 0 0, .int .i64 0, .int .i64 0, .slice none 0 0] 40)).alloc (.cells #[.int .i64 0, .int .i64 0, .slice none 0 0, .int .i64 0, .int .i64 0, .slice none 0 0, .int .i64 0, .int .i64 0, .slice none 0 0] 40)) := ((Mod.refl _ _).alloc _).alloc _
  generalize ((w.alloc (.cells #[.int .i64 0, .int .i64 0, .slice none 0 0, .int .i64 0, .int .i64 0, .slice none 0 0, .int .i64 0, .int .i64 0, .slice none 0 0] 40)).alloc (.cells #[.int .i64 0, .int .i64 0, .slice none 0 0, .int .i64 0, .int .i64 0, .slice none 0 0, .int .i64 0, .int .i64 0, .slice none 0 0] 40)) = w0 at *
  have hs0 := M0.size
  obtain ⟨res, hres⟩ : ∃ res, res = w.heap.size := ⟨_, rfl⟩
  obtain ⟨fb, hfb⟩ : ∃ fb, fb = w.heap.size + 1 := ⟨_, rfl⟩
  rw [← hfb] at hf0 ⊢
  rw [← hres] at hr0 ⊢
  have n1 : res ≠ fb := by omega
  have n2 : w.heap.size ≤ res := by omega
  have n3 : w.heap.size ≤ fb := by omega
  have rl := hr0.lt
  have fl := hf0.lt
  clear hfb hres
  have HB0 := Lib.hid (And.intro hr0 (And.intro hf0 M0))
  clear hr0 hf0 M0
  refine (pNew' _ d.W d.H d.nY v HD.out.1.sides HD.out.1.ny).mono ?_
  rintro e w2 ⟨gy, rfl, by2, gy2, hm2⟩
  have hr2 := HB0.out.1.keep hm2 (fun h => h)
  have hf2 := HB0.out.2.1.keep hm2 (fun h => h)
  obtain ⟨fc, ff⟩ := hf2.both
  have fl2 := hf2.lt
  have M2 := HB0.out.2.2.trans hm2
  have hf2' : Blk (((w2.setCell ⟨fb, 0, none⟩ (.int .i64 (d.W : Int))).setCell ⟨fb, 1, none⟩ (.int .i64 (d.H : Int))).setCell ⟨fb, 2, none⟩ (.slice (some ⟨gy, 0, none⟩) d.nY d.nY)) fb 40 #[.int .i64 (d.W : Int), .int .i64 (d.H : Int), .slice (some ⟨gy, 0, none⟩) d.nY d.nY, .int .i64 0, .int .i64 0, .slice none 0 0, .int .i64 0, .int .i64 0, .slice none 0 0] := ((hf2.set_ 0 _).set_ 1 _).set_ 2 _
  have by2' := ((by2.far (p := ⟨fb, 0, none⟩) (by dsimp; omega) (.int .i64 (d.W : Int))).far (p := ⟨fb, 1, none⟩) (by dsimp; omega) (.int .i64 (d.H : Int))).far (p := ⟨fb, 2, none⟩) (by dsimp; omega) (.slice (some ⟨gy, 0, none⟩) d.nY d.nY)
  have hr2' := ((hr2.far (p := ⟨fb, 0, none⟩) n1 (.int .i64 (d.W : Int))).far (p := ⟨fb, 1, none⟩) n1 (.int .i64 (d.H : Int))).far (p := ⟨fb, 2, none⟩) n1 (.slice (some ⟨gy, 0, none⟩) d.nY d.nY)
  have M2' := ((M2.setCell (p := ⟨fb, 0, none⟩) (.inr n3) (.int .i64 (d.W : Int))).setCell (p := ⟨fb, 1, none⟩) (.inr n3) (.int .i64 (d.H : Int))).setCell (p := ⟨fb, 2, none⟩) (.inr n3) (.slice (some ⟨gy, 0, none⟩) d.nY d.nY)
  have HB2 := Lib.hid (And.intro hr2' (And.intro hf2' (And.intro by2' M2')))
  have hgy : fb < gy := by omega
  clear hr2 hf2 by2 M2 hm2 hr2' hf2' by2' M2' HB0
  have q1 := HD.out.2.2.1
  have q2 := HD.out.2.2.2
  go_wp2_with fail
  clear q1 q2 fc ff fl2
  generalize (((w2.setCell ⟨fb, 0, none⟩ (.int .i64 (d.W : Int))).setCell ⟨fb, 1, none⟩ (.int .i64 (d.H : Int))).setCell ⟨fb, 2, none⟩ (.slice (some ⟨gy, 0, none⟩) d.nY d.nY)) = w3 at *
  have hs3 := HB2.out.2.2.2.size
  have gyl := HB2.out.2.2.1.lt
  refine (pNew' _ d.W2 d.H2 d.nC v HD.out.2.1 HD.out.1.nc).mono ?_
  rintro e w4 ⟨gu, rfl, bu4, gu4, hm4⟩
  have hr4 := HB2.out.1.keep hm4 (fun h => h)
  have hf4 := HB2.out.2.1.keep hm4 (fun h => h)
  have by4 := HB2.out.2.2.1.keep hm4 (fun h => h)
  have M4 := HB2.out.2.2.2.trans hm4
  have fl3 := HB2.out.2.1.lt
  obtain ⟨fc, ff⟩ := hf4.both
  have fl4 := hf4.lt
  have HB4 := Lib.hid (And.intro hr4 (And.intro hf4 (And.intro by4 (And.intro M4 bu4))))
  clear hr4 hf4 by4 M4 hm4 bu4 HB2
  have q1 := HD.out.2.2.1
  have q2 := HD.out.2.2.2
  go_wp2_with fail
  clear q1 q2 fc ff fl4
  have hf5 := ((HB4.out.2.1.set_ 3 (.int .i64 (d.W2 : Int))).set_ 4 (.int .i64 (d.H2 : Int))).set_ 5 (.slice (some ⟨gu, 0, none⟩) d.nC d.nC)
  have by5 := ((HB4.out.2.2.1.far (p := ⟨fb, 3, none⟩) (by dsimp; omega) (.int .i64 (d.W2 : Int))).far (p := ⟨fb, 4, none⟩) (by dsimp; omega) (.int .i64 (d.H2 : Int))).far (p := ⟨fb, 5, none⟩) (by dsimp; omega) (.slice (some ⟨gu, 0, none⟩) d.nC d.nC)
  have bu5 := ((HB4.out.2.2.2.2.far (p := ⟨fb, 3, none⟩) (by dsimp; omega) (.int .i64 (d.W2 : Int))).far (p := ⟨fb, 4, none⟩) (by dsimp; omega) (.int .i64 (d.H2 : Int))).far (p := ⟨fb, 5, none⟩) (by dsimp; omega) (.slice (some ⟨gu, 0, none⟩) d.nC d.nC)
  have hr5 := ((HB4.out.1.far (p := ⟨fb, 3, none⟩) n1 (.int .i64 (d.W2 : Int))).far (p := ⟨fb, 4, none⟩) n1 (.int .i64 (d.H2 : Int))).far (p := ⟨fb, 5, none⟩) n1 (.slice (some ⟨gu, 0, none⟩) d.nC d.nC)
  have M5 := ((HB4.out.2.2.2.1.setCell (p := ⟨fb, 3, none⟩) (.inr n3) (.int .i64 (d.W2 : Int))).setCell (p := ⟨fb, 4, none⟩) (.inr n3) (.int .i64 (d.H2 : Int))).setCell (p := ⟨fb, 5, none⟩) (.inr n3) (.slice (some ⟨gu, 0, none⟩) d.nC d.nC)
  have hf5' : Blk (((w4.setCell ⟨fb, 3, none⟩ (.int .i64 (d.W2 : Int))).setCell ⟨fb, 4, none⟩ (.int .i64 (d.H2 : Int))).setCell ⟨fb, 5, none⟩ (.slice (some ⟨gu, 0, none⟩) d.nC d.nC)) fb 40 #[.int .i64 (d.W : Int), .int .i64 (d.H : Int), .slice (some ⟨gy, 0, none⟩) d.nY d.nY, .int .i64 (d.W2 : Int), .int .i64 (d.H2 : Int), .slice (some ⟨gu, 0, none⟩) d.nC d.nC, .int .i64 0, .int .i64 0, .slice none 0 0] := hf5
  have HB5 := Lib.hid (And.intro hr5 (And.intro hf5' (And.intro by5 (And.intro M5 bu5))))
  clear hf5 hf5' by5 bu5 hr5 M5
  have hgu : gy < gu := by omega
  generalize (((w4.setCell ⟨fb, 3, none⟩ (.int .i64 (d.W2 : Int))).setCell ⟨fb, 4, none⟩ (.int .i64 (d.H2 : Int))).setCell ⟨fb, 5, none⟩ (.slice (some ⟨gu, 0, none⟩) d.nC d.nC)) = w5 at *
  have gul := HB5.out.2.2.2.2.lt
  refine (pNew' _ d.W2 d.H2 d.nC v HD.out.2.1 HD.out.1.nc).mono ?_
  rintro e w6 ⟨gv, rfl, bv6, gv6, hm6⟩
  have hgv : gu < gv := by omega
  have hr6 := HB5.out.1.keep hm6 (fun h => h)
  have hf6 := HB5.out.2.1.keep hm6 (fun h => h)
  have by6 := HB5.out.2.2.1.keep hm6 (fun h => h)
  have bu6 := HB5.out.2.2.2.2.keep hm6 (fun h => h)
  have M6 := HB5.out.2.2.2.1.trans hm6
  obtain ⟨fc, ff⟩ := hf6.both
  obtain ⟨rc, rf⟩ := hr6.both
  have fl6 := hf6.lt
  have rl6 := hr6.lt
  have HB6 := Lib.hid (And.intro by6 (And.intro bu6 (And.intro bv6 M6)))
  clear hr6 hf6 by6 bu6 bv6 M6 hm6 HB5 HB4
  go_wp2_with fail
  refine bodyPost_ret (v := .tuple #[.agg (frameV d gy gu gv).toArray, .int .i64 0]) (by simp [results, Tryz.results41, go_sem, rc, frameV]) rfl ⟨_, rfl, ⟨gy, gu, gv, rfl, ⟨?_, ?_, ?_, by simp [blankPix], by simp [blankPix], by simp [blankPix], by omega, by omega, by omega⟩, by omega, by omega, by omega⟩, ?_⟩
  · have h : Blk w6 gy 5 (u8s (blankPix d v).Y).toArray := HB6.out.1
    have k1 : gy ≠ res := by omega
    have k2 : gy ≠ fb := by omega
    exact (by repeat' (first | with_reducible exact h | with_reducible refine Blk.far ?_ k1 _ | with_reducible refine Blk.far ?_ k2 _))
  · have h : Blk w6 gu 5 (u8s (blankPix d v).U).toArray := HB6.out.2.1
    have k1 : gu ≠ res := by omega
    have k2 : gu ≠ fb := by omega
    exact (by repeat' (first | with_reducible exact h | with_reducible refine Blk.far ?_ k1 _ | with_reducible refine Blk.far ?_ k2 _))
  · have h : Blk w6 gv 5 (u8s (blankPix d v).V).toArray := HB6.out.2.2.1
    have k1 : gv ≠ res := by omega
    have k2 : gv ≠ fb := by omega
    exact (by repeat' (first | with_reducible exact h | with_reducible refine Blk.far ?_ k1 _ | with_reducible refine Blk.far ?_ k2 _))
  · have h := HB6.out.2.2.2
    exact (by repeat' (first | with_reducible exact h | with_reducible refine Mod.setCell ?_ (.inr n2) _ | with_reducible refine Mod.setCell ?_ (.inr n3) _))
end Go.Proofs.YtmkopcojnibhlaaGreatDoor

/-
  plane.Whole, plane.Copy, deblock.Frame of right frames.
-/
namespace Go.Proofs.YtmkopcojnibhlaaGreatDoor
open Go.RowKit

theorem blkIn {w : World} {g n : Nat} {L : List UInt8} (h : Blk w g 5 (u8s L).toArray) (hl : L.length = n) (hn : n ≤ 16777216) : BytesIn w (some ⟨g, 0, none⟩) n n L := by
  subst hl
  exact (Bytes.of_blk (Nat.zero_le _) h (by unfold maxLen; omega)).in_
theorem Dim.Ok.nyle {d : Dim} (h : d.Ok) : d.nY ≤ 16777216 := by rw [h.ny]; exact (area_le h.sides).1
theorem Dim.Ok.ncle {d : Dim} (h : d.Ok) : d.nC ≤ 16777216 := by rw [h.nc]; exact (area_le h.half).1

set_option maxRecDepth 100000 in
set_option maxHeartbeats 2000000 in
theorem pWhole (w : World) (d : Dim) (hd : d.Ok) (gy gu gv : Nat) : Calls Tryz.prog 43 #[.agg (frameV d gy gu gv).toArray] w fun e w' => e = .returned (.bool true) ∧ Mod (fun _ => False) w w' := by
  unfold frameV
  have HD := Lib.hid hd
  obtain ⟨_, b1, b2, b3, b4, _⟩ := area_le hd.sides
  obtain ⟨_, b5, b6, b7, b8, _⟩ := area_le hd.half
  have m1 : ((d.W : Int) % 16 == 0) = true := by have := hd.w16; simp; omega
  have m2 : ((d.H : Int) % 16 == 0) = true := by have := hd.h16; simp; omega
  have q1 : (d.W : Int) / 2 = (d.W2 : Int) := by have := hd.w2; omega
  have q2 : (d.H : Int) / 2 = (d.H2 : Int) := by have := hd.h2; omega
  have HM := Lib.hid (And.intro m1 (And.intro m2 (And.intro q1 q2)))
  clear hd m1 m2 q1 q2
  have h0 := (Sat.nil (fun _ => False) w)
  go_enter Tryz.func43, Tryz.ntmps43
  go_wp2_with fail
  refine (pRight' _ d.W d.H _ d.nY _ HD.out.sides HD.out.ny).mono ?_
  rintro e w1 ⟨rfl, hm1⟩
  have HS := Sat.after hm1 (h0.alloc _ _ rfl)
  clear hm1 h0
  obtain ⟨pc, pf⟩ := (HS.own_ 0 rfl).both
  have H1 := Lib.hid HS
  clear HS
  go_wp2_with fail
  refine (pRight' _ d.W2 d.H2 _ d.nC _ HD.out.half HD.out.nc).mono ?_
  rintro e w2 ⟨rfl, hm2⟩
  have HS := H1.out.quiet hm2
  clear hm2 pc pf H1
  obtain ⟨pc, pf⟩ := (HS.own_ 0 rfl).both
  have H1 := Lib.hid HS
  clear HS
  go_wp2_with fail
  refine (pRight' _ d.W2 d.H2 _ d.nC _ HD.out.half HD.out.nc).mono ?_
  rintro e w3 ⟨rfl, hm3⟩
  have HS := H1.out.quiet hm3
  clear hm3 pc pf H1
  obtain ⟨pc, pf⟩ := (HS.own_ 0 rfl).both
  have H1 := Lib.hid HS
  clear HS
  obtain ⟨m1, m2, q1, q2⟩ := HM.out
  go_wp2_with fail
  go_ret
  exact ⟨rfl, H1.out.mod⟩

def smPix (q : Nat) (d : Dim) (f : Pix) : Pix := ⟨smPlane q d.W d.H f.Y, smPlane q d.W2 d.H2 f.U, smPlane q d.W2 d.H2 f.V⟩
def FramePost (w : World) (d : Dim) (f : Pix) (e : Ending) (w' : World) : Prop := ∃ p, e = .returned (.tuple #[p, .int .i64 0]) ∧ FrameMade w d f p w' ∧ Mod (fun _ => False) w w'
theorem dPlane' (w : World) (W H : Nat) (A : Option Addr) (n c : Nat) (pix : List UInt8) (q : Nat) (h : sidesB W H = true) (hn : n = W * H) (hin : BytesIn w A n c pix) (hq : q ≤ 31) :
    Calls Tryz.prog 92 #[.agg #[.int .i64 (W : Int), .int .i64 (H : Int), .slice A n c], .int .i64 (q : Int)] w
      fun e w' => ∃ g, e = .returned (.tuple #[.agg #[.int .i64 (W : Int), .int .i64 (H : Int), .slice (some ⟨g, 0, none⟩) n n], .int .i64 0]) ∧ Blk w' g 5 (u8s (smPlane q W H pix)).toArray ∧ w.heap.size ≤ g ∧ Mod (fun _ => False) w w' := by
  subst hn
  exact dPlane w W H A _ c pix q h rfl hin hq

set_option maxRecDepth 100000 in
set_option maxHeartbeats 4000000 in
theorem dFrame (w : World) (d : Dim) (hd : d.Ok) (gy gu gv : Nat) (f : Pix) (q : Nat) (hq : q ≤ 31) (hf : FrameAt w d gy gu gv f) : Calls Tryz.prog 49 #[.agg (frameV d gy gu gv).toArray, .int .i64 (q : Int)] w (FramePost w d (smPix q d f)) := by
  have HC := pWhole ((w.alloc (.cells (frameV d gy gu gv).toArray 40)).alloc (.cells #[.int .i64 0, .int .i64 0, .slice none 0 0, .int .i64 0, .int .i64 0, .slice none 0 0, .int .i64 0, .int .i64 0, .slice none 0 0] 40)) d hd gy gu gv
  unfold frameV at HC ⊢
  have HD := Lib.hid (And.intro hd hf)
  clear hd hf
  have h0 := (Sat.nil (fun _ => False) w)
  go_enter Tryz.func49, Tryz.ntmps49
  go_wp2_with fail
  refine HC.mono ?_
  clear HC
  rintro e w1 ⟨rfl, hm1⟩
  have HS := Sat.after hm1 ((h0.alloc _ _ rfl).alloc (g := w.heap.size + 1) _ _ (by simp))
  clear hm1 h0
  have H1 := Lib.hid HS
  clear HS
  go_wp2_with fail
  refine (dKnown _ q hq).mono ?_
  rintro e w2 ⟨rfl, rfl⟩
  obtain ⟨pc, pf⟩ := (H1.out.own_ 1 rfl).both
  have hs1 : w.heap.size + 2 ≤ w1.heap.size := (H1.out.own_ 0 rfl).lt
  have n1 : w.heap.size < w1.heap.size := by omega
  have HS1 := H1.out.alloc 40 #[.int .i64 0, .int .i64 0, .slice none 0 0, .int .i64 0, .int .i64 0, .slice none 0 0, .int .i64 0, .int .i64 0, .slice none 0 0] rfl
  obtain ⟨ob, hob⟩ : ∃ ob, ob = w1.heap.size := ⟨_, rfl⟩
  rw [← hob] at HS1
  have G1 := Lib.hid HS1
  clear HS1
  go_wp2_with fail
  rw [← hob]
  refine (dPlane' _ d.W d.H _ d.nY _ f.Y q HD.out.1.sides HD.out.1.ny (blkIn (HD.out.2.quiet G1.out.mod).by_ HD.out.2.ly HD.out.1.nyle) hq).mono ?_
  rintro e w2 ⟨g1, rfl, hb1, hg1, hm1⟩
  have HS := Sat.grew hm1 G1.out hb1 hg1
  clear hb1 hm1 pc pf H1 G1 hob n1 hs1
  obtain ⟨pc, pf⟩ := (HS.own_ 3 rfl).both
  obtain ⟨oc, of⟩ := (HS.own_ 1 rfl).both
  have n1 := HS.apart 1 3 rfl rfl (by omega)
  have n2 := HS.apart 1 2 rfl rfl (by omega)
  have n3 := HS.apart 2 3 rfl rfl (by omega)
  dsimp only at n1 n2 n3
  have ol := (HS.own_ 1 rfl).lt
  have pl := (HS.own_ 3 rfl).lt
  have rl := (HS.own_ 2 rfl).lt
  have HS2 := (((HS).put (g := ob) (i := 0) (u := .int .i64 (d.W : Int)) (.there (.here rfl))).put (g := ob) (i := 1) (u := .int .i64 (d.H : Int)) (.there (.here rfl))).put (g := ob) (i := 2) (u := .slice (some ⟨g1, 0, none⟩) d.nY d.nY) (.there (.here rfl))
  have G := Lib.hid HS2
  clear HS HS2
  go_wp2_with fail
  refine (dPlane' _ d.W2 d.H2 _ d.nC _ f.U q HD.out.1.half HD.out.1.nc (blkIn (HD.out.2.quiet G.out.mod).bu HD.out.2.lu HD.out.1.ncle) hq).mono ?_
  rintro e w3 ⟨g2, rfl, hb1, hg2, hm1⟩
  have HS := Sat.grew hm1 G.out hb1 hg2
  clear hb1 hm1 pc pf oc of n1 n2 n3 ol pl rl G
  obtain ⟨pc, pf⟩ := (HS.own_ 4 rfl).both
  obtain ⟨oc, of⟩ := (HS.own_ 2 rfl).both
  have n1 := HS.apart 2 4 rfl rfl (by omega)
  have n2 := HS.apart 2 3 rfl rfl (by omega)
  have n3 := HS.apart 3 4 rfl rfl (by omega)
  dsimp only at n1 n2 n3
  have ol := (HS.own_ 2 rfl).lt
  have pl := (HS.own_ 4 rfl).lt
  have rl := (HS.own_ 3 rfl).lt
  have HS2 := (((HS).put (g := ob) (i := 3) (u := .int .i64 (d.W2 : Int)) (.there (.there (.here rfl)))).put (g := ob) (i := 4) (u := .int .i64 (d.H2 : Int)) (.there (.there (.here rfl)))).put (g := ob) (i := 5) (u := .slice (some ⟨g2, 0, none⟩) d.nC d.nC) (.there (.there (.here rfl)))
  have G := Lib.hid HS2
  clear HS HS2
  go_wp2_with fail
  refine (dPlane' _ d.W2 d.H2 _ d.nC _ f.V q HD.out.1.half HD.out.1.nc (blkIn (HD.out.2.quiet G.out.mod).bv HD.out.2.lv HD.out.1.ncle) hq).mono ?_
  rintro e w4 ⟨g3, rfl, hb1, hg3, hm1⟩
  have HS := Sat.grew hm1 G.out hb1 hg3
  clear hb1 hm1 pc pf oc of n1 n2 n3 ol pl rl G
  obtain ⟨pc, pf⟩ := (HS.own_ 5 rfl).both
  have hob3 : Blk w4 ob 40 #[.int .i64 (d.W : Int), .int .i64 (d.H : Int), .slice (some ⟨g1, 0, none⟩) d.nY d.nY, .int .i64 (d.W2 : Int), .int .i64 (d.H2 : Int), .slice (some ⟨g2, 0, none⟩) d.nC d.nC, .int .i64 0, .int .i64 0, .slice none 0 0] := HS.own_ 3 rfl
  obtain ⟨oc, of⟩ := hob3.both
  obtain ⟨rc, rf⟩ := (HS.own_ 4 rfl).both
  have n1 := HS.apart 3 5 rfl rfl (by omega)
  have n2 := HS.apart 3 4 rfl rfl (by omega)
  have n3 := HS.apart 4 5 rfl rfl (by omega)
  dsimp only at n1 n2 n3
  have ol := (HS.own_ 3 rfl).lt
  have pl := (HS.own_ 5 rfl).lt
  have rl := (HS.own_ 4 rfl).lt
  have HS2 := (((HS).put (g := ob) (i := 6) (u := .int .i64 (d.W2 : Int)) (.there (.there (.there (.here rfl))))).put (g := ob) (i := 7) (u := .int .i64 (d.H2 : Int)) (.there (.there (.there (.here rfl))))).put (g := ob) (i := 8) (u := .slice (some ⟨g3, 0, none⟩) d.nC d.nC) (.there (.there (.there (.here rfl))))
  have G := Lib.hid HS2
  clear HS HS2
  clear hob3 pc pf
  go_wp2_with fail
  have HE := (((((((((G.out).put (g := w.heap.size + 1) (i := 0) (u := .int .i64 (d.W : Int)) (.there (.there (.there (.there (.here rfl)))))).put (g := w.heap.size + 1) (i := 1) (u := .int .i64 (d.H : Int)) (.there (.there (.there (.there (.here rfl)))))).put (g := w.heap.size + 1) (i := 2) (u := .slice (some ⟨g1, 0, none⟩) d.nY d.nY) (.there (.there (.there (.there (.here rfl)))))).put (g := w.heap.size + 1) (i := 3) (u := .int .i64 (d.W2 : Int)) (.there (.there (.there (.there (.here rfl)))))).put (g := w.heap.size + 1) (i := 4) (u := .int .i64 (d.H2 : Int)) (.there (.there (.there (.there (.here rfl)))))).put (g := w.heap.size + 1) (i := 5) (u := .slice (some ⟨g2, 0, none⟩) d.nC d.nC) (.there (.there (.there (.there (.here rfl)))))).put (g := w.heap.size + 1) (i := 6) (u := .int .i64 (d.W2 : Int)) (.there (.there (.there (.there (.here rfl)))))).put (g := w.heap.size + 1) (i := 7) (u := .int .i64 (d.H2 : Int)) (.there (.there (.there (.there (.here rfl)))))).put (g := w.heap.size + 1) (i := 8) (u := .slice (some ⟨g3, 0, none⟩) d.nC d.nC) (.there (.there (.there (.there (.here rfl)))))
  have h1 := HE.own_ 2 rfl
  have h2 := HE.own_ 1 rfl
  have h3 := HE.own_ 0 rfl
  dsimp only at h1 h2 h3
  have l1 : w.heap.size ≤ g1 := HE.low 2 rfl
  have l2 : w.heap.size ≤ g2 := HE.low 1 rfl
  have l3 : w.heap.size ≤ g3 := HE.low 0 rfl
  have a12 : g2 ≠ g1 := HE.apart 1 2 rfl rfl (by omega)
  have a13 : g3 ≠ g1 := HE.apart 0 2 rfl rfl (by omega)
  have a23 : g3 ≠ g2 := HE.apart 0 1 rfl rfl (by omega)
  have HM := HE.mod
  clear HE
  refine bodyPost_ret (v := .tuple #[.agg (frameV d g1 g2 g3).toArray, .int .i64 0]) (by simp [results, Tryz.results49, go_sem, rc, frameV]) rfl ⟨_, rfl, ⟨g1, g2, g3, rfl, ?_, l1, l2, l3⟩, HM⟩
  exact ⟨h1, h2, h3, smPlane_length.trans HD.out.2.ly, smPlane_length.trans HD.out.2.lu, smPlane_length.trans HD.out.2.lv, a12.symm, a13.symm, a23.symm⟩
end Go.Proofs.YtmkopcojnibhlaaGreatDoor

/-
  decoder: the guess of a block by its mode.
-/
namespace Go.Proofs.YtmkopcojnibhlaaGreatDoor
open Go.RowKit

def GPost (w : World) (bk g : Nat) (P : Nat → Prop) (r : Option (List UInt8 × St)) (e : Ending) (w' : World) : Prop :=
  (r = none ∧ ∃ er : Int, (er == 0) = false ∧ e = .returned (.tuple #[.slice none 0 0, .int .i64 er]) ∧ Mod (fun j => j = g ∨ j = bk) w w') ∨
  ∃ (l : List UInt8) (s' : St) (ob : Nat), r = some (l, s') ∧ e = .returned (.tuple #[.slice (some ⟨ob, 0, none⟩) 64 64, .int .i64 0]) ∧ Blk w' ob 5 (u8s l).toArray ∧ l.length = 64 ∧ w.heap.size ≤ ob ∧ SAt w' bk g P s' ∧ Mod (fun j => j = g ∨ j = bk) w w'
theorem guessL_length (W : Nat) (pix : List UInt8) (x y m : Nat) : (guessL W pix x y m).length = 64 := by simp [guessL]
theorem mvL_length (W H : Nat) (pix : List UInt8) (x y : Int) (n : Nat) (vx vy : Int) : (mvL W H pix x y n vx vy).length = n * n := by simp [mvL]
theorem sone_lt {t n : Nat} {s s' : St} {v : Nat} (h : sone t n s = some (v, s')) : v < n := by
  unfold sone at h
  simp only [Option.bind_eq_some_iff] at h
  obtain ⟨y, _, h2⟩ := h
  split at h2
  · cases h2
  · injection h2 with h2
    subst h2
    omega
def sguess (W : Nat) (pix : List UInt8) (x y : Nat) (s : St) : Option (List UInt8 × St) := (sone 0 4 s).map fun m => (guessL W pix x y m.1, m.2)

set_option maxRecDepth 100000 in
set_option maxHeartbeats 4000000 in
theorem gOwn (w : World) (bk g rb fr dg : Nat) (P : Nat → Prop) (hPg : ¬ P g) (hPb : ¬ P bk) (hPw : ∀ j, P j → j < w.heap.size) (hgb : g ≠ bk) (K : Bool) (N Q : Int) (s : St) (h : SAt w bk g P s)
    (hr : Blk w rb 217 (rdV K N Q bk g fr dg)) (hrg : rb ≠ g) (hrb : rb ≠ bk)
    (W H n gq fo pl : Nat) (pix : List UInt8) (hsd : sidesB W H = true) (hn : n = W * H) (fc : Array Value) (hf : Blk w fr 40 fc) (hf0 : fc[fo]? = some (.int .i64 (W : Int))) (hf1 : fc[fo + 1]? = some (.int .i64 (H : Int))) (hf2 : fc[fo + 2]? = some (.slice (some ⟨gq, 0, none⟩) n n))
    (hpl : pl < 3) (hro : (rdV K N Q bk g fr dg)[5 + pl]? = some (.pointer (some ⟨fr, fo, none⟩)))
    (hq : Blk w gq 5 (u8s pix).toArray) (hql : pix.length = n) (a1 : fr ≠ g) (a2 : fr ≠ bk) (a3 : gq ≠ g) (a4 : gq ≠ bk) (a5 : rb ≠ fr) (a6 : rb ≠ gq) (a7 : fr ≠ gq)
    (x y : Nat) (hx : x + 8 ≤ W) (hy : y + 8 ≤ H) (vx vy : Int) :
    Calls Tryz.prog 234 #[.pointer (some ⟨rb, 0, none⟩), .int .i64 2, .agg #[.int .i64 (pl : Int), .int .i64 (x : Int), .int .i64 (y : Int)], .agg #[.int .i64 vx, .int .i64 vy]] w (GPost w bk g P (sguess W pix x y s)) := by
  have hbw : bk < w.heap.size := h.1.lt
  have hgw : g < w.heap.size := by obtain ⟨_, _, _, hb, _⟩ := h.2.2; exact hb.lt
  obtain ⟨hnle, _⟩ := area_le hsd
  rw [← hn] at hnle
  have HS0 := (((((Sat.one (fun j => j = g ∨ j = bk) hr).add_old hf (by intro e he; simp only [List.nil_append, List.mem_cons, List.not_mem_nil, or_false] at he; subst he; exact a5)).add_old hq (by intro e he; simp only [List.nil_append, List.mem_cons, List.not_mem_nil, or_false] at he; rcases he with rfl | rfl; exact a7; exact a6)).alloc 264 #[.int .i64 (pl : Int), .int .i64 (x : Int), .int .i64 (y : Int)] rfl).alloc (g := w.heap.size + 1) 156 #[.int .i64 vx, .int .i64 vy] (by simp)).drew
  have h1 : SAt (((w.alloc (.cells #[.int .i64 (pl : Int), .int .i64 (x : Int), .int .i64 (y : Int)] 264)).alloc (.cells #[.int .i64 vx, .int .i64 vy] 156)).drew) bk g P s := h.mod ((((Mod.refl (fun _ => False) w).alloc _).alloc _).drew) (fun h => h) (fun h => h) (fun _ _ h => h)
  have r3 : w.cell? ⟨rb, 3, none⟩ = some (.pointer (some ⟨bk, 0, none⟩)) := hr.cell 3
  have r4 : w.cell? ⟨rb, 4, none⟩ = some (.pointer (some ⟨g, 0, none⟩)) := hr.cell 4
  have hrl := hr.lt
  have H0 := Lib.hid (And.intro HS0 (And.intro h1 (And.intro hPw (And.intro hf0 (And.intro hf1 (And.intro hf2 (And.intro hro (And.intro hql (And.intro hsd hn)))))))))
  clear HS0 h1 h hr hPw hf hq hf0 hf1 hf2 hro hql hsd hn
  go_enter Tryz.func234, Tryz.ntmps234
  go_wp2_with fail
  refine wp_region_plan [8] [] [0, 1, 2, 3, 4, 5, 6, 7, 8, 9, 10, 11, 12, 13] (by kernel_rfl) (by kernel_rfl) (fun _ _ _ d _ h => by cases d <;> exact h) ?_
  iterate 8 (refine plan_still rfl rfl (fun K hK => ?_); go_simp; refine hK _ ?_; clear hK K)
  refine plan_loud rfl rfl (fun K hK => ?_)
  go_simp
  refine (bookOne4 _ bk g P hPg hPb (fun j hj => by have := H0.out.2.2.1 j hj; simp; omega) hgb s 0 (by omega) H0.out.2.1).mono ?_
  rintro e w2 (⟨hr, er, her, rfl, hm⟩ | ⟨v, s2, hr, rfl, hs2, hm⟩)
  · have HS2 := Sat.beside hm H0.out.1 (fun _ h => .inl h) (by intro e he; simp only [List.mem_append, List.mem_cons, List.not_mem_nil, or_false] at he; rcases he with (rfl | rfl) | rfl | rfl | rfl <;> (dsimp only; omega))
    have hR : sguess W pix x y s = none := by unfold sguess; rw [hr]; rfl
    have H2 := Lib.hid (And.intro HS2.mod hR)
    have her' : (er != 0) = true := by rw [bne, her]; rfl
    clear HS2 hR hm hr her r3 r4
    dsimp only []
    refine hK _ _ ?_
    clear hK K
    iterate 5 (refine plan_still rfl rfl (fun K hK => ?_); go_simp; refine hK _ ?_; clear hK K)
    refine plan_done ?_
    go_wp2_with fail
    go_ret2
    exact .inl ⟨H2.out.2, er, by simpa using her', rfl, H2.out.1⟩
  · have HS2 := Sat.beside hm H0.out.1 (fun _ h => .inl h) (by intro e he; simp only [List.mem_append, List.mem_cons, List.not_mem_nil, or_false] at he; rcases he with (rfl | rfl) | rfl | rfl | rfl <;> (dsimp only; omega))
    have hv := sone_lt hr
    have hR : sguess W pix x y s = some (guessL W pix x y v, s2) := by unfold sguess; rw [hr]; rfl
    have hb0 := HS2.old_ 2 rfl
    have hb1 := HS2.old_ 1 rfl
    have hb2 := HS2.old_ 0 rfl
    dsimp only at hb0 hb1 hb2
    have c5 : w2.cell? ⟨rb, 5 + pl, none⟩ = some (.pointer (some ⟨fr, fo, none⟩)) := (hb0.cell _).trans H0.out.2.2.2.2.2.2.1
    have f0 : w2.cell? ⟨fr, fo, none⟩ = some (.int .i64 (W : Int)) := (hb1.cell _).trans H0.out.2.2.2.1
    have f1 : w2.cell? ⟨fr, fo + 1, none⟩ = some (.int .i64 (H : Int)) := (hb1.cell _).trans H0.out.2.2.2.2.1
    have f2 : w2.cell? ⟨fr, fo + 2, none⟩ = some (.slice (some ⟨gq, 0, none⟩) n n) := (hb1.cell _).trans H0.out.2.2.2.2.2.1
    have pb := HS2.own_ 1 rfl
    dsimp only at pb
    have p0 : w2.cell? ⟨w.heap.size, 0, none⟩ = some (.int .i64 (pl : Int)) := pb.cell 0
    have p1 : w2.cell? ⟨w.heap.size, 1, none⟩ = some (.int .i64 (x : Int)) := pb.cell 1
    have p2 : w2.cell? ⟨w.heap.size, 2, none⟩ = some (.int .i64 (y : Int)) := pb.cell 2
    have i1 : (0 : Int) ≤ (pl : Int) := by omega
    have i2 : (pl : Int) < 3 := by omega
    have H2 := Lib.hid (And.intro HS2 (And.intro hR (And.intro hs2 (blkIn hb2 H0.out.2.2.2.2.2.2.2.1 hnle))))
    clear HS2 hR hm hr r3 r4 hs2 hb0 hb1 hb2 pb
    dsimp only []
    refine hK _ _ ?_
    clear hK K
    iterate 5 (refine plan_still rfl rfl (fun K hK => ?_); go_simp; refine hK _ ?_; clear hK K)
    refine plan_done ?_
    go_wp2_with fail
    refine wp_region_plan [14] [] [0, 1, 2, 3, 4, 5, 6, 7, 8, 9, 10, 11, 12, 13, 14, 15, 16, 17, 18] (by kernel_rfl) (by kernel_rfl) (fun _ _ _ d _ h => by cases d <;> exact h) ?_
    iterate 14 (refine plan_still rfl rfl (fun K hK => ?_); go_simp; refine hK _ ?_; clear hK K)
    refine plan_loud rfl rfl (fun K hK => ?_)
    go_simp
    refine (iGuess _ W H _ n n pix H0.out.2.2.2.2.2.2.2.2.1 H0.out.2.2.2.2.2.2.2.2.2 (H2.out.2.2.2.quiet ((Mod.refl (fun _ => False) _).drew)) (Nat.le_refl _) x y v hx hy hv).mono ?_
    rintro e w3 ⟨ob, rfl, hbo, hob, hm3⟩
    have hM : Mod (fun _ => False) w2 w3 := ((Mod.refl (fun _ => False) w2).drew).trans hm3
    have HS3 := H2.out.1.quiet hM
    have hs3 := H2.out.2.2.1.mod hM (fun h => h) (fun h => h) (fun _ _ h => h)
    have H3 := Lib.hid (And.intro HS3.mod (And.intro hs3 (And.intro hbo (Nat.le_trans H2.out.1.mod.size hob))))
    clear HS3 hs3 hbo hob hm3 hM c5 f0 f1 f2 p0 p1 p2
    dsimp only []
    refine hK _ _ ?_
    clear hK K
    iterate 4 (refine plan_still rfl rfl (fun K hK => ?_); go_simp; refine hK _ ?_; clear hK K)
    refine plan_done ?_
    go_wp2_with fail
    go_ret2
    exact .inr ⟨_, s2, ob, H2.out.2.1, rfl, H3.out.2.2.1, guessL_length _ _ _ _ _, H3.out.2.2.2, H3.out.2.1, H3.out.1⟩
end Go.Proofs.YtmkopcojnibhlaaGreatDoor

/-
  decoder: the guess of a block out of the frame ahead.
-/
namespace Go.Proofs.YtmkopcojnibhlaaGreatDoor
open Go.RowKit

def smoved (W H : Nat) (pix : List UInt8) (x y pl : Nat) (vx vy : Int) : List UInt8 := mvL W H pix x y 8 (if 0 < pl then vx / 2 else vx) (if 0 < pl then vy / 2 else vy)
theorem smoved_length (W H : Nat) (pix : List UInt8) (x y pl : Nat) (vx vy : Int) : (smoved W H pix x y pl vx vy).length = 64 := by unfold smoved; rw [mvL_length]

set_option maxRecDepth 100000 in
set_option maxHeartbeats 4000000 in
theorem gMoved (w : World) (bk g rb fr dg : Nat) (P : Nat → Prop) (K : Bool) (N Q : Int) (s : St) (h : SAt w bk g P s) (hPw : ∀ j, P j → j < w.heap.size)
    (hr : Blk w rb 217 (rdV K N Q bk g fr dg)) (kind : Int) (hk : (kind == 2) = false)
    (W H n aq ao pl : Nat) (pix : List UInt8) (hsd : sidesB W H = true) (hn : n = W * H) (dc : Array Value) (hd : Blk w dg 136 dc) (hd0 : dc[ao]? = some (.int .i64 (W : Int))) (hd1 : dc[ao + 1]? = some (.int .i64 (H : Int))) (hd2 : dc[ao + 2]? = some (.slice (some ⟨aq, 0, none⟩) n n))
    (hpl : pl < 3) (hro : (rdV K N Q bk g fr dg)[8 + pl]? = some (.pointer (some ⟨dg, ao, none⟩)))
    (hq : Blk w aq 5 (u8s pix).toArray) (hql : pix.length = n) (a5 : rb ≠ dg) (a6 : rb ≠ aq) (a7 : dg ≠ aq)
    (x y : Nat) (hx : x + 8 ≤ W) (hy : y + 8 ≤ H) (vx vy : Int) (hvx : -128 ≤ vx ∧ vx ≤ 128) (hvy : -128 ≤ vy ∧ vy ≤ 128) :
    Calls Tryz.prog 234 #[.pointer (some ⟨rb, 0, none⟩), .int .i64 kind, .agg #[.int .i64 (pl : Int), .int .i64 (x : Int), .int .i64 (y : Int)], .agg #[.int .i64 vx, .int .i64 vy]] w (GPost w bk g P (some (smoved W H pix x y pl vx vy, s))) := by
  obtain ⟨hnle, hW1, hW2, hH1, hH2, _⟩ := area_le hsd
  rw [← hn] at hnle
  obtain ⟨hvx1, hvx2⟩ := hvx
  obtain ⟨hvy1, hvy2⟩ := hvy
  have HS0 := ((((Sat.one (fun _ => False) hr).add_old hd (by intro e he; simp only [List.nil_append, List.mem_cons, List.not_mem_nil, or_false] at he; subst he; exact a5)).add_old hq (by intro e he; simp only [List.nil_append, List.mem_cons, List.not_mem_nil, or_false] at he; rcases he with rfl | rfl; exact a7; exact a6)).alloc 264 #[.int .i64 (pl : Int), .int .i64 (x : Int), .int .i64 (y : Int)] rfl).alloc (g := w.heap.size + 1) 156 #[.int .i64 vx, .int .i64 vy] (by simp)
  have hrl := hr.lt
  have H0 := Lib.hid (And.intro HS0 (And.intro h (And.intro hPw (And.intro hd0 (And.intro hd1 (And.intro hd2 (And.intro hro (And.intro hql (And.intro hsd hn)))))))))
  clear HS0 h hr hPw hd hq hd0 hd1 hd2 hro hql hsd hn
  obtain ⟨ux, hux⟩ : ∃ ux, ux = if 0 < pl then vx / 2 else vx := ⟨_, rfl⟩
  obtain ⟨uy, huy⟩ : ∃ uy, uy = if 0 < pl then vy / 2 else vy := ⟨_, rfl⟩
  have HU := Lib.hid (And.intro hux huy)
  have bx : -128 ≤ ux ∧ ux ≤ 128 := by rw [hux]; split <;> omega
  have by_ : -128 ≤ uy ∧ uy ≤ 128 := by rw [huy]; split <;> omega
  clear hux huy
  go_enter Tryz.func234, Tryz.ntmps234
  go_upto_if 48 with (fail)
  go_cut [] (fun wx => Sat (fun _ => False) w wx [⟨w.heap.size + 1, 156, #[.int .i64 ux, .int .i64 uy]⟩, ⟨w.heap.size, 264, #[.int .i64 (pl : Int), .int .i64 (x : Int), .int .i64 (y : Int)]⟩] [⟨aq, 5, (u8s pix).toArray⟩, ⟨dg, 136, dc⟩, ⟨rb, 217, rdV K N Q bk g fr dg⟩])
  case first =>
    by_cases hp : 0 < pl
    · have d1 : decide (0 < (pl : Int)) = true := decide_eq_true (by omega)
      go_wp2_with fail
      refine (mChroma _ vx vy ⟨by omega, by omega⟩ ⟨by omega, by omega⟩).mono ?_
      rintro e w2 ⟨rfl, hm⟩
      have HS2 := H0.out.1.quiet hm
      obtain ⟨vc, vf⟩ := (HS2.own_ 0 rfl).both
      have vl := (HS2.own_ 0 rfl).lt
      have H2 := Lib.hid HS2
      clear HS2 hm
      go_wp2_with fail
      go_meet
      have e1 : ux = vx / 2 := HU.out.1.trans (if_pos hp)
      have e2 : uy = vy / 2 := HU.out.2.trans (if_pos hp)
      rw [e1, e2]
      exact (H2.out.put (g := w.heap.size + 1) (i := 0) (u := .int .i64 (vx / 2)) (.here rfl)).put (g := w.heap.size + 1) (i := 1) (u := .int .i64 (vy / 2)) (.here rfl)
    · have d1 : decide (0 < (pl : Int)) = false := decide_eq_false (by omega)
      go_wp2_with fail
      go_meet
      have e1 : ux = vx := HU.out.1.trans (if_neg hp)
      have e2 : uy = vy := HU.out.2.trans (if_neg hp)
      rw [e1, e2]
      exact H0.out.1
  case rest =>
    rename World => w2
    have hb0 := hcut.old_ 2 rfl
    have hb1 := hcut.old_ 1 rfl
    have hb2 := hcut.old_ 0 rfl
    have pb := hcut.own_ 1 rfl
    have vb := hcut.own_ 0 rfl
    dsimp only at hb0 hb1 hb2 pb vb
    have c8 : w2.cell? ⟨rb, 8 + pl, none⟩ = some (.pointer (some ⟨dg, ao, none⟩)) := (hb0.cell _).trans H0.out.2.2.2.2.2.2.1
    have f0 : w2.cell? ⟨dg, ao, none⟩ = some (.int .i64 (W : Int)) := (hb1.cell _).trans H0.out.2.2.2.1
    have f1 : w2.cell? ⟨dg, ao + 1, none⟩ = some (.int .i64 (H : Int)) := (hb1.cell _).trans H0.out.2.2.2.2.1
    have f2 : w2.cell? ⟨dg, ao + 2, none⟩ = some (.slice (some ⟨aq, 0, none⟩) n n) := (hb1.cell _).trans H0.out.2.2.2.2.2.1
    have p0 : w2.cell? ⟨w.heap.size, 0, none⟩ = some (.int .i64 (pl : Int)) := pb.cell 0
    have p1 : w2.cell? ⟨w.heap.size, 1, none⟩ = some (.int .i64 (x : Int)) := pb.cell 1
    have p2 : w2.cell? ⟨w.heap.size, 2, none⟩ = some (.int .i64 (y : Int)) := pb.cell 2
    have v0 : w2.cell? ⟨w.heap.size + 1, 0, none⟩ = some (.int .i64 ux) := vb.cell 0
    have v1 : w2.cell? ⟨w.heap.size + 1, 1, none⟩ = some (.int .i64 uy) := vb.cell 1
    have i1 : (0 : Int) ≤ (pl : Int) := by omega
    have i2 : (pl : Int) < 3 := by omega
    have H2 := Lib.hid (And.intro hcut (blkIn hb2 H0.out.2.2.2.2.2.2.2.1 hnle))
    clear hcut hb0 hb1 hb2 pb vb
    go_wp2_with fail
    refine wp_region_plan [14] [] [0, 1, 2, 3, 4, 5, 6, 7, 8, 9, 10, 11, 12, 13, 14, 15, 16] (by kernel_rfl) (by kernel_rfl) (fun _ _ _ d _ h => by cases d <;> exact h) ?_
    iterate 14 (refine plan_still rfl rfl (fun K hK => ?_); go_simp; refine hK _ ?_; clear hK K)
    refine plan_loud rfl rfl (fun K hK => ?_)
    go_simp
    refine (mBlock _ W H _ n n pix H0.out.2.2.2.2.2.2.2.2.1 H0.out.2.2.2.2.2.2.2.2.2 (by rw [← H0.out.2.2.2.2.2.2.2.2.2]; exact H2.out.2.quiet ((Mod.refl (fun _ => False) _).drew)) x y ux uy 8 ⟨by omega, by omega⟩ ⟨by omega, by omega⟩ ⟨by omega, by omega⟩ ⟨by omega, by omega⟩ ⟨by omega, by omega⟩).mono ?_
    rintro e w3 ⟨ob, N8, hN8, rfl, hbo, hob, hm3⟩
    obtain rfl : N8 = 64 := hN8
    have hM : Mod (fun _ => False) w w3 := H2.out.1.mod.trans (((Mod.refl (fun _ => False) w2).drew).trans hm3)
    have hs3 := H0.out.2.1.mod hM (fun h => h) (fun h => h) (fun _ _ h => h)
    have H3 := Lib.hid (And.intro hM (And.intro hs3 (And.intro hbo (Nat.le_trans H2.out.1.mod.size hob))))
    clear hs3 hbo hob hm3 hM c8 f0 f1 f2 p0 p1 p2 v0 v1
    dsimp only []
    refine hK _ _ ?_
    clear hK K
    iterate 2 (refine plan_still rfl rfl (fun K hK => ?_); go_simp; refine hK _ ?_; clear hK K)
    refine plan_done ?_
    go_wp2_with fail
    go_ret2
    refine .inr ⟨_, s, ob, rfl, rfl, ?_, smoved_length _ _ _ _ _ _ _ _, H3.out.2.2.2, H3.out.2.1, H3.out.1.mono (fun _ h => h.elim)⟩
    have hb := H3.out.2.2.1
    unfold smoved
    rw [← HU.out.1, ← HU.out.2]
    exact hb
end Go.Proofs.YtmkopcojnibhlaaGreatDoor
