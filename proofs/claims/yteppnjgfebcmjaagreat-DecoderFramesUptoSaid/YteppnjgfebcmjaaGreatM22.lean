/-
  Frames in memory; plane.Blank.
-/
import Derived.Test.YteppnjgfebcmjaaGreatM21
import Derived.Test.YteppnjgfebcmjaaGreatM19
import Derived.Test.YteppnjgfebcmjaaGreatM12
namespace Go.Proofs.YteppnjgfebcmjaaGreat
open Go.RowKit

/-- Sides of a frame, halves, sizes. -/
structure Dim where
  W : Nat
  H : Nat
  W2 : Nat
  H2 : Nat
  nY : Nat
  nC : Nat
structure Dim.Ok (d : Dim) : Prop where
  sides : sidesB d.W d.H = true
  w16 : d.W % 16 = 0
  h16 : d.H % 16 = 0
  w2 : d.W = 2 * d.W2
  h2 : d.H = 2 * d.H2
  ny : d.nY = d.W * d.H
  nc : d.nC = d.W2 * d.H2
theorem Dim.Ok.half {d : Dim} (h : d.Ok) : sidesB d.W2 d.H2 = true := by
  have a := h.sides
  unfold sidesB at *
  rw [decide_eq_true_eq] at *
  have := h.w16; have := h.h16; have := h.w2; have := h.h2
  omega
def frameV (d : Dim) (gy gu gv : Nat) : List Value :=
  [.int .i64 (d.W : Int), .int .i64 (d.H : Int), .slice (some ⟨gy, 0, none⟩) d.nY d.nY, .int .i64 (d.W2 : Int), .int .i64 (d.H2 : Int), .slice (some ⟨gu, 0, none⟩) d.nC d.nC, .int .i64 (d.W2 : Int), .int .i64 (d.H2 : Int), .slice (some ⟨gv, 0, none⟩) d.nC d.nC]
/-- The samples of a frame. -/
structure Pix where
  Y : List UInt8
  U : List UInt8
  V : List UInt8
structure FrameAt (w : World) (d : Dim) (gy gu gv : Nat) (f : Pix) : Prop where
  by_ : Blk w gy 5 (u8s f.Y).toArray
  bu : Blk w gu 5 (u8s f.U).toArray
  bv : Blk w gv 5 (u8s f.V).toArray
  ly : f.Y.length = d.nY
  lu : f.U.length = d.nC
  lv : f.V.length = d.nC
  yu : gy ≠ gu
  yv : gy ≠ gv
  uv : gu ≠ gv
theorem FrameAt.mod {w w' : World} {S : Nat → Prop} {d : Dim} {gy gu gv : Nat} {f : Pix} (h : FrameAt w d gy gu gv f) (hm : Mod S w w') (h1 : ¬ S gy) (h2 : ¬ S gu) (h3 : ¬ S gv) : FrameAt w' d gy gu gv f :=
  ⟨h.by_.keep hm h1, h.bu.keep hm h2, h.bv.keep hm h3, h.ly, h.lu, h.lv, h.yu, h.yv, h.uv⟩
theorem FrameAt.quiet {w w' : World} {d : Dim} {gy gu gv : Nat} {f : Pix} (h : FrameAt w d gy gu gv f) (hm : Mod (fun _ => False) w w') : FrameAt w' d gy gu gv f := h.mod hm (fun h => h) (fun h => h) (fun h => h)
def blankPix (d : Dim) (v : UInt8) : Pix := ⟨List.replicate d.nY v, List.replicate d.nC v, List.replicate d.nC v⟩
def FrameMade (w : World) (d : Dim) (f : Pix) (v : Value) (w' : World) : Prop :=
  ∃ gy gu gv, v = .agg (frameV d gy gu gv).toArray ∧ FrameAt w' d gy gu gv f ∧ w.heap.size ≤ gy ∧ w.heap.size ≤ gu ∧ w.heap.size ≤ gv
def BlankPost (w : World) (d : Dim) (v : UInt8) (e : Ending) (w' : World) : Prop := ∃ p, e = .returned (.tuple #[p, .int .i64 0]) ∧ FrameMade w d (blankPix d v) p w' ∧ Mod (fun _ => False) w w'
def NewPlane' (w : World) (W H n : Nat) (v : UInt8) (e : Ending) (w' : World) : Prop :=
  ∃ g, e = .returned (.tuple #[.agg #[.int .i64 (W : Int), .int .i64 (H : Int), .slice (some ⟨g, 0, none⟩) n n], .int .i64 0]) ∧ Blk w' g 5 (u8s (List.replicate n v)).toArray ∧ w.heap.size ≤ g ∧ Mod (fun _ => False) w w'
theorem pNew' (w : World) (W H n : Nat) (v : UInt8) (h : sidesB W H = true) (hn : n = W * H) : Calls Tryz.prog 103 #[.int .i64 (W : Int), .int .i64 (H : Int), .int .u8 (v.toNat : Int)] w (NewPlane' w W H n v) := by
  refine (pNew w W H v h).mono ?_
  rintro e w' ⟨p, rfl, ⟨g, rfl, hb, _, hg⟩, hm⟩
  rw [← hn] at hb ⊢
  exact ⟨g, rfl, hb, hg, hm⟩

set_option maxRecDepth 100000 in
set_option maxHeartbeats 4000000 in
theorem pBlank (w : World) (d : Dim) (hd : d.Ok) (v : UInt8) : Calls Tryz.prog 61 #[.int .i64 (d.W : Int), .int .i64 (d.H : Int), .int .u8 (v.toNat : Int)] w (BlankPost w d v) := by
  have hh := hd.half
  obtain ⟨a1, a2, a3, a4, a5, a6⟩ := area_le hd.sides
  have hw16 := hd.w16
  have hh16 := hd.h16
  have m1 : ((d.W : Int) % 16 != 0) = false := by simp; omega
  have m2 : ((d.H : Int) % 16 != 0) = false := by simp; omega
  have q1 : (d.W : Int) / 2 = (d.W2 : Int) := by have := hd.w2; omega
  have q2 : (d.H : Int) / 2 = (d.H2 : Int) := by have := hd.h2; omega
  have HD := Lib.hid (And.intro hd (And.intro hh (And.intro q1 q2)))
  clear hd hh hw16 hh16 q1 q2 a1 a6
  go_enter Tryz.func61, Tryz.ntmps61
  go_wp2_with fail
  refine (pSides_yes _ d.W d.H HD.out.1.sides).mono ?_
  rintro e w1 ⟨rfl, rfl⟩
  go_wp2_with fail
  have hr0 : Blk ((w.alloc (.cells #[.int .i64 0, .int .i64 0, .slice none 0 0, .int .i64 0, .int .i64 0, .slice none 0 0, .int .i64 0, .int .i64 0, .slice none 0 0] 37)).alloc (.cells #[.int .i64 0, .int .i64 0, .slice none 0 0, .int .i64 0, .int .i64 0, .slice none 0 0, .int .i64 0, .int .i64 0, .slice none 0 0] 37)) w.heap.size 37 #[.int .i64 0, .int .i64 0, .slice none 0 0, .int .i64 0, .int .i64 0, .slice none 0 0, .int .i64 0, .int .i64 0, .slice none 0 0] := (Blk.new _ _ _).alloc _
  have hf0 : Blk ((w.alloc (.cells #[.int .i64 0, .int .i64 0, .slice none 0 0, .int .i64 0, .int .i64 0, .slice none 0 0, .int .i64 0, .int .i64 0, .slice none 0 0] 37)).alloc (.cells #[.int .i64 0, .int .i64 0, .slice none 0 0, .int .i64 0, .int .i64 0, .slice none 0 0, .int .i64 0, .int .i64 0, .slice none 0 0] 37)) (w.heap.size + 1) 37 #[.int .i64 0, .int .i64 0, .slice none 0 0, .int .i64 0, .int .i64 0, .slice none 0 0, .int .i64 0, .int .i64 0, .slice none 0 0] := by
    have h := Blk.new (w.alloc (.cells #[.int .i64 0, .int .i64 0, .slice none 0 0, .int .i64 0, .int .i64 0, .slice none 0 0, .int .i64 0, .int .i64 0, .slice none 0 0] 37)) 37 #[.int .i64 0, .int .i64 0, .slice none 0 0, .int .i64 0, .int .i64 0, .slice none 0 0, .int .i64 0, .int .i64 0, .slice none 0 0]
    simpa using h
  have M0 : Mod (fun _ => False) w ((w.alloc (.cells #[.int .i64 0, .int .i64 0, .slice none 0 0, .int .i64 0, .int .i64 0, .slice none 0 0, .int .i64 0, .int .i64 0, .slice none 0 0] 37)).alloc (.cells #[.int .i64 0, .int .i64 0, .slice none 0 0, .int .i64 0, .int .i64 0, .slice none 0 0, .int .i64 0, .int .i64 0, .slice none 0 0] 37)) := ((Mod.refl _ _).alloc _).alloc _
  generalize ((w.alloc (.cells #[.int .i64 0, .int .i64 0, .slice none 0 0, .int .i64 0, .int .i64 0, .slice none 0 0, .int .i64 0, .int .i64 0, .slice none 0 0] 37)).alloc (.cells #[.int .i64 0, .int .i64 0, .slice none 0 0, .int .i64 0, .int .i64 0, .slice none 0 0, .int .i64 0, .int .i64 0, .slice none 0 0] 37)) = w0 at *
  have hs0 := M0.size
  obtain ⟨res, hres⟩ : ∃ res, res = w.heap.size := ⟨_, rfl⟩
  obtain ⟨fb, hfb⟩ : ∃ fb, fb = w.heap.size + 1 := ⟨_, rfl⟩
  rw [← hfb] at hf0 ⊢
  rw [← hres] at hr0 ⊢
  have n1 : res ≠ fb := by omega
  have n2 : w.heap.size ≤ res := by omega
  have n3 : w.heap.size ≤ fb := by omega
  have rl := hr0.lt
  have fl := hf0.lt
  clear hfb hres
  have HB0 := Lib.hid (And.intro hr0 (And.intro hf0 M0))
  clear hr0 hf0 M0
  refine (pNew' _ d.W d.H d.nY v HD.out.1.sides HD.out.1.ny).mono ?_
  rintro e w2 ⟨gy, rfl, by2, gy2, hm2⟩
  have hr2 := HB0.out.1.keep hm2 (fun h => h)
  have hf2 := HB0.out.2.1.keep hm2 (fun h => h)
  obtain ⟨fc, ff⟩ := hf2.both
  have fl2 := hf2.lt
  have M2 := HB0.out.2.2.trans hm2
  have hf2' : Blk (((w2.setCell ⟨fb, 0, none⟩ (.int .i64 (d.W : Int))).setCell ⟨fb, 1, none⟩ (.int .i64 (d.H : Int))).setCell ⟨fb, 2, none⟩ (.slice (some ⟨gy, 0, none⟩) d.nY d.nY)) fb 37 #[.int .i64 (d.W : Int), .int .i64 (d.H : Int), .slice (some ⟨gy, 0, none⟩) d.nY d.nY, .int .i64 0, .int .i64 0, .slice none 0 0, .int .i64 0, .int .i64 0, .slice none 0 0] := ((hf2.set_ 0 _).set_ 1 _).set_ 2 _
  have by2' := ((by2.far (p := ⟨fb, 0, none⟩) (by dsimp; omega) (.int .i64 (d.W : Int))).far (p := ⟨fb, 1, none⟩) (by dsimp; omega) (.int .i64 (d.H : Int))).far (p := ⟨fb, 2, none⟩) (by dsimp; omega) (.slice (some ⟨gy, 0, none⟩) d.nY d.nY)
  have hr2' := ((hr2.far (p := ⟨fb, 0, none⟩) n1 (.int .i64 (d.W : Int))).far (p := ⟨fb, 1, none⟩) n1 (.int .i64 (d.H : Int))).far (p := ⟨fb, 2, none⟩) n1 (.slice (some ⟨gy, 0, none⟩) d.nY d.nY)
  have M2' := ((M2.setCell (p := ⟨fb, 0, none⟩) (.inr n3) (.int .i64 (d.W : Int))).setCell (p := ⟨fb, 1, none⟩) (.inr n3) (.int .i64 (d.H : Int))).setCell (p := ⟨fb, 2, none⟩) (.inr n3) (.slice (some ⟨gy, 0, none⟩) d.nY d.nY)
  have HB2 := Lib.hid (And.intro hr2' (And.intro hf2' (And.intro by2' M2')))
  have hgy : fb < gy := by omega
  clear hr2 hf2 by2 M2 hm2 hr2' hf2' by2' M2' HB0
  have q1 := HD.out.2.2.1
  have q2 := HD.out.2.2.2
  go_wp2_with fail
  clear q1 q2 fc ff fl2
  generalize (((w2.setCell ⟨fb, 0, none⟩ (.int .i64 (d.W : Int))).setCell ⟨fb, 1, none⟩ (.int .i64 (d.H : Int))).setCell ⟨fb, 2, none⟩ (.slice (some ⟨gy, 0, none⟩) d.nY d.nY)) = w3 at *
  have hs3 := HB2.out.2.2.2.size
  have gyl := HB2.out.2.2.1.lt
  refine (pNew' _ d.W2 d.H2 d.nC v HD.out.2.1 HD.out.1.nc).mono ?_
  rintro e w4 ⟨gu, rfl, bu4, gu4, hm4⟩
  have hr4 := HB2.out.1.keep hm4 (fun h => h)
  have hf4 := HB2.out.2.1.keep hm4 (fun h => h)
  have by4 := HB2.out.2.2.1.keep hm4 (fun h => h)
  have M4 := HB2.out.2.2.2.trans hm4
  have fl3 := HB2.out.2.1.lt
  obtain ⟨fc, ff⟩ := hf4.both
  have fl4 := hf4.lt
  have HB4 := Lib.hid (And.intro hr4 (And.intro hf4 (And.intro by4 (And.intro M4 bu4))))
  clear hr4 hf4 by4 M4 hm4 bu4 HB2
  have q1 := HD.out.2.2.1
  have q2 := HD.out.2.2.2
  go_wp2_with fail
  clear q1 q2 fc ff fl4
  have hf5 := ((HB4.out.2.1.set_ 3 (.int .i64 (d.W2 : Int))).set_ 4 (.int .i64 (d.H2 : Int))).set_ 5 (.slice (some ⟨gu, 0, none⟩) d.nC d.nC)
  have by5 := ((HB4.out.2.2.1.far (p := ⟨fb, 3, none⟩) (by dsimp; omega) (.int .i64 (d.W2 : Int))).far (p := ⟨fb, 4, none⟩) (by dsimp; omega) (.int .i64 (d.H2 : Int))).far (p := ⟨fb, 5, none⟩) (by dsimp; omega) (.slice (some ⟨gu, 0, none⟩) d.nC d.nC)
  have bu5 := ((HB4.out.2.2.2.2.far (p := ⟨fb, 3, none⟩) (by dsimp; omega) (.int .i64 (d.W2 : Int))).far (p := ⟨fb, 4, none⟩) (by dsimp; omega) (.int .i64 (d.H2 : Int))).far (p := ⟨fb, 5, none⟩) (by dsimp; omega) (.slice (some ⟨gu, 0, none⟩) d.nC d.nC)
  have hr5 := ((HB4.out.1.far (p := ⟨fb, 3, none⟩) n1 (.int .i64 (d.W2 : Int))).far (p := ⟨fb, 4, none⟩) n1 (.int .i64 (d.H2 : Int))).far (p := ⟨fb, 5, none⟩) n1 (.slice (some ⟨gu, 0, none⟩) d.nC d.nC)
  have M5 := ((HB4.out.2.2.2.1.setCell (p := ⟨fb, 3, none⟩) (.inr n3) (.int .i64 (d.W2 : Int))).setCell (p := ⟨fb, 4, none⟩) (.inr n3) (.int .i64 (d.H2 : Int))).setCell (p := ⟨fb, 5, none⟩) (.inr n3) (.slice (some ⟨gu, 0, none⟩) d.nC d.nC)
  have hf5' : Blk (((w4.setCell ⟨fb, 3, none⟩ (.int .i64 (d.W2 : Int))).setCell ⟨fb, 4, none⟩ (.int .i64 (d.H2 : Int))).setCell ⟨fb, 5, none⟩ (.slice (some ⟨gu, 0, none⟩) d.nC d.nC)) fb 37 #[.int .i64 (d.W : Int), .int .i64 (d.H : Int), .slice (some ⟨gy, 0, none⟩) d.nY d.nY, .int .i64 (d.W2 : Int), .int .i64 (d.H2 : Int), .slice (some ⟨gu, 0, none⟩) d.nC d.nC, .int .i64 0, .int .i64 0, .slice none 0 0] := hf5
  have HB5 := Lib.hid (And.intro hr5 (And.intro hf5' (And.intro by5 (And.intro M5 bu5))))
  clear hf5 hf5' by5 bu5 hr5 M5
  have hgu : gy < gu := by omega
  generalize (((w4.setCell ⟨fb, 3, none⟩ (.int .i64 (d.W2 : Int))).setCell ⟨fb, 4, none⟩ (.int .i64 (d.H2 : Int))).setCell ⟨fb, 5, none⟩ (.slice (some ⟨gu, 0, none⟩) d.nC d.nC)) = w5 at *
  have gul := HB5.out.2.2.2.2.lt
  refine (pNew' _ d.W2 d.H2 d.nC v HD.out.2.1 HD.out.1.nc).mono ?_
  rintro e w6 ⟨gv, rfl, bv6, gv6, hm6⟩
  have hgv : gu < gv := by omega
  have hr6 := HB5.out.1.keep hm6 (fun h => h)
  have hf6 := HB5.out.2.1.keep hm6 (fun h => h)
  have by6 := HB5.out.2.2.1.keep hm6 (fun h => h)
  have bu6 := HB5.out.2.2.2.2.keep hm6 (fun h => h)
  have M6 := HB5.out.2.2.2.1.trans hm6
  obtain ⟨fc, ff⟩ := hf6.both
  obtain ⟨rc, rf⟩ := hr6.both
  have fl6 := hf6.lt
  have rl6 := hr6.lt
  have HB6 := Lib.hid (And.intro by6 (And.intro bu6 (And.intro bv6 M6)))
  clear hr6 hf6 by6 bu6 bv6 M6 hm6 HB5 HB4
  go_wp2_with fail
  refine bodyPost_ret (v := .tuple #[.agg (frameV d gy gu gv).toArray, .int .i64 0]) (by simp [results, Tryz.results61, go_sem, rc, frameV]) rfl ⟨_, rfl, ⟨gy, gu, gv, rfl, ⟨?_, ?_, ?_, by simp [blankPix], by simp [blankPix], by simp [blankPix], by omega, by omega, by omega⟩, by omega, by omega, by omega⟩, ?_⟩
  · have h : Blk w6 gy 5 (u8s (blankPix d v).Y).toArray := HB6.out.1
    have k1 : gy ≠ res := by omega
    have k2 : gy ≠ fb := by omega
    exact (by repeat' (first | with_reducible exact h | with_reducible refine Blk.far ?_ k1 _ | with_reducible refine Blk.far ?_ k2 _))
  · have h : Blk w6 gu 5 (u8s (blankPix d v).U).toArray := HB6.out.2.1
    have k1 : gu ≠ res := by omega
    have k2 : gu ≠ fb := by omega
    exact (by repeat' (first | with_reducible exact h | with_reducible refine Blk.far ?_ k1 _ | with_reducible refine Blk.far ?_ k2 _))
  · have h : Blk w6 gv 5 (u8s (blankPix d v).V).toArray := HB6.out.2.2.1
    have k1 : gv ≠ res := by omega
    have k2 : gv ≠ fb := by omega
    exact (by repeat' (first | with_reducible exact h | with_reducible refine Blk.far ?_ k1 _ | with_reducible refine Blk.far ?_ k2 _))
  · have h := HB6.out.2.2.2
    exact (by repeat' (first | with_reducible exact h | with_reducible refine Mod.setCell ?_ (.inr n2) _ | with_reducible refine Mod.setCell ?_ (.inr n3) _))
end Go.Proofs.YteppnjgfebcmjaaGreat

/-
  The reference's planes: New.
-/
namespace Go.Proofs.YteppnjgfebcmjaaGreat
open Go.RowKit

set_option maxRecDepth 100000 in
set_option maxHeartbeats 2000000 in
theorem fPNew (w : World) (W H : Nat) (v : UInt8) (h : sidesB W H = true) : Calls Tryz.prog 69 #[.int .i64 (W : Int), .int .i64 (H : Int), .int .u8 (v.toNat : Int)] w (NewPlane w W H v) := by
  obtain ⟨ha, h1, h2, h3, h4, h5⟩ := area_le h
  obtain ⟨n, hn⟩ : ∃ n, n = W * H := ⟨_, rfl⟩
  unfold NewPlane PlaneMade
  rw [← hn] at ha h5 ⊢
  have e1 : wrap64 ((W : Int) * (H : Int)) = (n : Int) := by
    rw [show (W : Int) * (H : Int) = (n : Int) by rw [hn]; simp]
    exact IntWalk.wrap64_in _ ⟨by omega, by omega⟩
  have HE := Lib.hid e1
  clear hn e1
  go_enter Tryz.func69, Tryz.ntmps69
  go_wp2_with fail
  refine (fPSide _ W h1 h2).mono ?_
  rintro e w1 ⟨rfl, rfl⟩
  go_wp2_with fail
  refine (fPSide _ H h3 h4).mono ?_
  rintro e w1 ⟨rfl, rfl⟩
  have hr0 : Blk (w.alloc (.cells #[.int .i64 0, .int .i64 0, .slice none 0 0] 35)) w.heap.size 35 #[.int .i64 0, .int .i64 0, .slice none 0 0] := Blk.new _ _ _
  have m0 : Mod (fun _ => False) w (w.alloc (.cells #[.int .i64 0, .int .i64 0, .slice none 0 0] 35)) := (Mod.refl _ _).alloc _
  have HR := Lib.hid (And.intro hr0 m0)
  clear hr0 m0
  go_upto_region 6 with (refine wpList_mk_u8 _ rfl (.tmp 27) (.tmp 27) rfl n (congrArg (Value.int .i64) HE.out) (congrArg (Value.int .i64) HE.out) (by omega) ?_; intro w3 hb3 hm3; have HO := Lib.hid (And.intro hb3 hm3); clear hb3 hm3)
  have hg3 : Blk w3 (w.heap.size + 1) 5 (u8s (fillU n v 0)).toArray := by
    have h := HO.out.1
    rw [← fillU_zero n v] at h
    simpa using h
  have hr3 := HR.out.1.keep HO.out.2 (fun h => h)
  have M3 := HR.out.2.trans HO.out.2
  have hgl := hg3.lt
  have hrl := hr3.lt
  have hs3 := M3.size
  obtain ⟨pc, hpc⟩ : ∃ pc : Array Value, pc = #[.int .i64 (W : Int), .int .i64 (H : Int), .slice (some ⟨w.heap.size + 1, 0, none⟩) n n] := ⟨_, rfl⟩
  have hp4 : Blk (w3.alloc (.cells pc 35)) w3.heap.size 35 pc := Blk.new _ _ _
  have hg4 := hg3.alloc (.cells pc 35)
  have hr4 := hr3.alloc (.cells pc 35)
  have M4 := M3.alloc (.cells pc 35)
  have c0 : (w3.alloc (.cells pc 35)).cell? ⟨w3.heap.size, 2, none⟩ = some (.slice (some ⟨w.heap.size + 1, 0, none⟩) n n) := by rw [hp4.cell, hpc]; rfl
  have HP := Lib.hid hpc
  rw [← hpc]
  obtain ⟨res, hres⟩ : ∃ res, res = w.heap.size := ⟨_, rfl⟩
  obtain ⟨g, hge⟩ : ∃ g, g = w.heap.size + 1 := ⟨_, rfl⟩
  obtain ⟨pb, hpb⟩ : ∃ pb, pb = w3.heap.size := ⟨_, rfl⟩
  rw [← hge] at hgl hg4 HP c0 ⊢
  rw [← hpb] at hp4 c0 ⊢
  rw [← hres] at hrl hr4 ⊢
  have n1 : res ≠ g := by omega
  have n2 : res ≠ pb := by omega
  have n3 : g ≠ pb := by omega
  have n4 : w.heap.size ≤ res := by omega
  have n5 : w.heap.size ≤ g := by omega
  have HB := Lib.hid (And.intro hr4 (And.intro hp4 (And.intro hg4 M4)))
  clear hr4 hp4 hg4 M4 hg3 hr3 M3 HO HR hpc hres hge hpb
  generalize w3.alloc (.cells pc 35) = w4 at *
  go_wp2_with fail
  clear c0
  go_loopw [11] (NewRel w res pb g pc n v) (fun i _ => n - (intOf i).toNat)
  case atStart => exact ⟨0, by omega, rfl, HB.out.1, HB.out.2.1, HB.out.2.2.1, HB.out.2.2.2⟩
  case round =>
    clear HB
    obtain ⟨k, hk, rfl, hr, hp, hg, hM⟩ := hrel
    by_cases hlt : k < n
    · have c2 : wr.cell? ⟨pb, 2, none⟩ = some (.slice (some ⟨g, 0, none⟩) n n) := by rw [hp.cell, HP.out]; rfl
      have p1 : (0 : Int) ≤ (k : Int) := by omega
      have p2 : (k : Int) < (n : Int) := by omega
      have k3 : wr.cell? ⟨g, k, none⟩ = some (.int .u8 ((fillU n v k).getD k 0).toNat) := by rw [hg.cell]; simp [u8s, List.getD_eq_getElem?_getD, fillU_length n v k hk, hlt]
      have f3 := hg.frozen k
      have hl := hg.lt
      generalize ((fillU n v k).getD k 0).toNat = old at *
      have HB := Lib.hid (And.intro hr (And.intro hp (And.intro hg hM)))
      clear hr hp hg hM
      go_wp2_with fail
      go_roundw
      case rel => exact ⟨k + 1, by omega, by go_num, HB.out.1.far n1 _, HB.out.2.1.far (fun h => n3 h.symm) _, HB.out.2.2.1.put (by simpa using fillU_set n v k hlt), HB.out.2.2.2.setCell (.inr n5) _⟩
      case measure => simp [intOf]; omega
    · obtain rfl : k = n := by omega
      obtain ⟨hpc', hpf'⟩ := hp.both
      rw [HP.out] at hpc'
      obtain ⟨hrc', hrf'⟩ := hr.both
      have hrl' := hr.lt
      have hpl' := hp.lt
      have HB := Lib.hid (And.intro hr (And.intro hg hM))
      clear hr hp hg hM
      go_wp2_with fail
      obtain ⟨hr, hg, hM⟩ := HB.out
      rw [fillU_full] at hg
      refine bodyPost_ret (v := .tuple #[.agg #[.int .i64 (W : Int), .int .i64 (H : Int), .slice (some ⟨g, 0, none⟩) k k], .int .i64 0]) (by simp [results, Tryz.results69, go_sem, hrc']) rfl ⟨_, rfl, ⟨g, rfl, ?_, by simp, n5⟩, ?_⟩
      · exact (by repeat' (first | with_reducible exact hg | with_reducible refine Blk.far ?_ n1.symm _))
      · exact (by repeat' (first | with_reducible exact hM | with_reducible refine Mod.setCell ?_ (.inr n4) _))
theorem fPNew' (w : World) (W H n : Nat) (v : UInt8) (h : sidesB W H = true) (hn : n = W * H) : Calls Tryz.prog 69 #[.int .i64 (W : Int), .int .i64 (H : Int), .int .u8 (v.toNat : Int)] w (NewPlane' w W H n v) := by
  refine (fPNew w W H v h).mono ?_
  rintro e w' ⟨p, rfl, ⟨g, rfl, hb, _, hg⟩, hm⟩
  rw [← hn] at hb ⊢
  exact ⟨g, rfl, hb, hg, hm⟩
end Go.Proofs.YteppnjgfebcmjaaGreat

/-
  deblock: the closure that smooths a line.
-/
namespace Go.Proofs.YteppnjgfebcmjaaGreat
open Go.RowKit

/-- A row with a line at a place made smooth. -/
def smo (q : Nat) (L : List UInt8) (p s : Nat) : List UInt8 :=
  (L.set (p - s) (UInt8.ofNat (lineN (L.getD (p - 2 * s) 0).toNat (L.getD (p - s) 0).toNat (L.getD p 0).toNat (L.getD (p + s) 0).toNat q).1)).set p
    (UInt8.ofNat (lineN (L.getD (p - 2 * s) 0).toNat (L.getD (p - s) 0).toNat (L.getD p 0).toNat (L.getD (p + s) 0).toNat q).2)
theorem smo_length (q : Nat) (L : List UInt8) (p s : Nat) : (smo q L p s).length = L.length := by simp [smo]
theorem lineN_lt (a b c d q : Nat) (hb : b < 256) (hc : c < 256) : (lineN a b c d q).1 < 256 ∧ (lineN a b c d q).2 < 256 := by
  unfold lineN
  split
  · exact ⟨hb, hc⟩
  · exact ⟨clipN_lt _, clipN_lt _⟩
theorem u8_cell {w : World} {g : Nat} {t : TypeId} {L : List UInt8} (hb : Blk w g t (u8s L).toArray) {i : Nat} (hi : i < L.length) : w.cell? ⟨g, i, none⟩ = some (.int .u8 ((L.getD i 0).toNat : Int)) := by
  rw [hb.cell, List.getElem?_toArray]
  simp [u8s, hi]
theorem u8_set (L : List UInt8) (k v : Nat) (hv : v < 256) : (u8s L).toArray.setIfInBounds k (.int .u8 (v : Int)) = (u8s (L.set k (UInt8.ofNat v))).toArray := by
  rw [u8s_set L k v hv]
  simp

set_option maxRecDepth 100000 in
set_option maxHeartbeats 2000000 in
theorem dSmooth (w : World) (bp bq g n q p s : Nat) (L : List UInt8) (hL : L.length = n) (hq : q ≤ 31) (hs : 1 ≤ s) (h1 : 2 * s ≤ p) (h2 : p + s < n) (hn : n ≤ 16777216)
    (hbp : Blk w bp 22 #[.slice (some ⟨g, 0, none⟩) n n]) (hbq : Blk w bq 3 #[.int .i64 (q : Int)]) (hb : Blk w g 5 (u8s L).toArray) :
    Calls Tryz.prog 108 #[.int .i64 (p : Int), .int .i64 (s : Int), .pointer (some ⟨bp, 0, none⟩), .pointer (some ⟨bq, 0, none⟩)] w fun e w' => e = .returned (.tuple #[]) ∧ Blk w' g 5 (u8s (smo q L p s)).toArray ∧ Mod (· = g) w w' := by
  obtain ⟨p1, hp1⟩ : ∃ p1, p1 = p - s := ⟨_, rfl⟩
  obtain ⟨p0, hp0⟩ : ∃ p0, p0 = p - 2 * s := ⟨_, rfl⟩
  obtain ⟨p3, hp3⟩ : ∃ p3, p3 = p + s := ⟨_, rfl⟩
  have hR : smo q L p s = (L.set p1 (UInt8.ofNat (lineN (L.getD p0 0).toNat (L.getD p1 0).toNat (L.getD p 0).toNat (L.getD p3 0).toNat q).1)).set p
    (UInt8.ofNat (lineN (L.getD p0 0).toNat (L.getD p1 0).toNat (L.getD p 0).toNat (L.getD p3 0).toNat q).2) := by rw [hp1, hp0, hp3]; rfl
  have k0 := u8_cell hb (i := p0) (by omega)
  have k1 := u8_cell hb (i := p1) (by omega)
  have k2 := u8_cell hb (i := p) (by omega)
  have k3 := u8_cell hb (i := p3) (by omega)
  have hlt := lineN_lt (L.getD p0 0).toNat (L.getD p1 0).toNat (L.getD p 0).toNat (L.getD p3 0).toNat q (UInt8.toNat_lt _) (UInt8.toNat_lt _)
  have x0 : (L.getD p0 0).toNat < 256 := UInt8.toNat_lt _
  have x1 : (L.getD p1 0).toNat < 256 := UInt8.toNat_lt _
  have x2 : (L.getD p 0).toNat < 256 := UInt8.toNat_lt _
  have x3 : (L.getD p3 0).toNat < 256 := UInt8.toNat_lt _
  obtain ⟨v0, hv0⟩ : ∃ v, v = (L.getD p0 0).toNat := ⟨_, rfl⟩
  obtain ⟨v1, hv1⟩ : ∃ v, v = (L.getD p1 0).toNat := ⟨_, rfl⟩
  obtain ⟨v2, hv2⟩ : ∃ v, v = (L.getD p 0).toNat := ⟨_, rfl⟩
  obtain ⟨v3, hv3⟩ : ∃ v, v = (L.getD p3 0).toNat := ⟨_, rfl⟩
  rw [← hv0, ← hv1, ← hv2, ← hv3] at hR hlt
  rw [← hv0] at k0 x0
  rw [← hv1] at k1 x1
  rw [← hv2] at k2 x2
  rw [← hv3] at k3 x3
  have y0 : w.cell? ⟨bp, 0, none⟩ = some (.slice (some ⟨g, 0, none⟩) n n) := hbp.cell 0
  have y1 : w.cell? ⟨bq, 0, none⟩ = some (.int .i64 (q : Int)) := hbq.cell 0
  have e1 : IntKind.i64.wrap ((p : Int) - (s : Int)) = (p1 : Int) := by rw [IntWalk.i64_in _ ⟨by omega, by omega⟩]; omega
  have e2 : IntKind.i64.wrap (2 * (s : Int)) = 2 * (s : Int) := IntWalk.i64_in _ ⟨by omega, by omega⟩
  have e3 : IntKind.i64.wrap ((p : Int) - 2 * (s : Int)) = (p0 : Int) := by rw [IntWalk.i64_in _ ⟨by omega, by omega⟩]; omega
  have e4 : IntKind.i64.wrap ((p : Int) + (s : Int)) = (p3 : Int) := by rw [IntWalk.i64_in _ ⟨by omega, by omega⟩]; omega
  have i0 : (0 : Int) ≤ (p0 : Int) := by omega
  have i1 : (0 : Int) ≤ (p1 : Int) := by omega
  have i2 : (0 : Int) ≤ (p : Int) := by omega
  have i3 : (0 : Int) ≤ (p3 : Int) := by omega
  have j0 : (p0 : Int) < (n : Int) := by omega
  have j1 : (p1 : Int) < (n : Int) := by omega
  have j2 : (p : Int) < (n : Int) := by omega
  have j3 : (p3 : Int) < (n : Int) := by omega
  have hne : p1 ≠ p := by omega
  have fz := hb.frozen
  have gl := hb.lt
  have HE := Lib.hid (And.intro e1 (And.intro e2 (And.intro e3 e4)))
  have HH := Lib.hid (And.intro hR (And.intro hb (And.intro hlt hL)))
  clear hR hb hlt hL hbp hbq hp0 hp1 hp3 hv0 hv1 hv2 hv3 e1 e2 e3 e4 h1 h2
  go_enter Tryz.func108, Tryz.ntmps108
  go_wp2_with fail
  have e1 := HE.out.1
  go_quiet (fail)
  clear e1
  go_upto_region 1 with (fail)
  obtain ⟨e1, e2, e3, e4⟩ := HE.out
  refine wp_region_plan [27, 29] [1, 25] [0, 2, 3, 4, 5, 6, 7, 8, 9, 10, 11, 12, 13, 14, 15, 16, 17, 18, 19, 20, 21, 22, 23, 24, 26, 1, 25, 27, 28, 29] (by kernel_rfl) (by kernel_rfl) (fun _ _ _ d _ h => by cases d <;> exact h) ?_
  iterate 21 (refine plan_still rfl rfl (fun K hK => ?_); go_simp; refine hK _ ?_; clear hK K)
  (refine plan_still rfl rfl (fun K hK => ?_); go_simp; refine ⟨_, (dLine _ v0 v1 v2 v3 q x0 x1 x2 x3 hq).mono (fun _ _ ⟨h1, h2⟩ => ⟨h1, h2.symm⟩), hK _ ?_⟩; clear hK K)
  iterate 3 (refine plan_still rfl rfl (fun K hK => ?_); go_simp; refine hK _ ?_; clear hK K)
  iterate 2 (refine plan_pure rfl rfl rfl (fun _ => rfl) ?_)
  refine plan_loud rfl rfl (fun K hK => ?_); go_simp; refine hK _ _ ?_; clear hK K
  refine plan_still rfl rfl (fun K hK => ?_); go_simp; refine hK _ ?_; clear hK K
  refine plan_loud rfl rfl (fun K hK => ?_); go_simp; refine hK _ _ ?_; clear hK K
  refine plan_done ?_
  clear e1 e2 e3 e4
  go_wp2_with fail
  go_end0
  refine ⟨rfl, ?_, ?_⟩
  · obtain ⟨hR, hb, hlt, hL⟩ := HH.out
    rw [hR]
    have h1 := ((hb.drewN (nq + 1)).put (i := p1) (u8_set L p1 _ hlt.1)).put (i := p) (u8_set (L.set p1 (UInt8.ofNat (lineN v0 v1 v2 v3 q).1)) p _ hlt.2)
    exact h1
  · exact (((Mod.refl (· = g) w).drewN _).setCell (p := ⟨g, p1, none⟩) (.inl rfl) _).setCell (p := ⟨g, p, none⟩) (.inl rfl) _
end Go.Proofs.YteppnjgfebcmjaaGreat
