/-
  The reference's frames: Blank, deblock's Frame.
-/
import Derived.Test.YteppnjgfebcmjaaGreatM31
import Derived.Test.YteppnjgfebcmjaaGreatM33
import Derived.Test.YteppnjgfebcmjaaGreatM32
namespace Go.Proofs.YteppnjgfebcmjaaGreat
open Go.RowKit

theorem bytes_rep {w : World} {B g n : Nat} {v : UInt8} (hB : B ≤ g) (hb : Blk w g 5 (u8s (List.replicate n v)).toArray) (hn : n ≤ 16777216) : Bytes w B (.slice (some ⟨g, 0, none⟩) n n) (List.replicate n v) := by
  have h := Bytes.of_blk hB hb (by rw [List.length_replicate]; unfold maxLen; omega)
  rwa [List.length_replicate] at h
def FBlankPost (w : World) (d : Dim) (f : Pix) (e : Ending) (w' : World) : Prop := ∃ p, e = .returned (.tuple #[p, .int .i64 0]) ∧ FrIn w' w.heap.size d p f ∧ Mod (fun _ => False) w w'
set_option maxRecDepth 100000 in
set_option maxHeartbeats 4000000 in
theorem fBlank (w : World) (d : Dim) (hd : d.Ok) (v : UInt8) : Calls Tryz.prog 32 #[.int .i64 (d.W : Int), .int .i64 (d.H : Int), .int .u8 (v.toNat : Int)] w (FBlankPost w d (blankPix d v)) := by
  have hh := hd.half
  obtain ⟨a1, a2, a3, a4, a5, a6⟩ := area_le hd.sides
  obtain ⟨c1, c2, c3, c4, c5, c6⟩ := area_le hh
  rw [← hd.ny] at a1 a6
  rw [← hd.nc] at c1 c6
  have hw16 := hd.w16
  have hh16 := hd.h16
  have m1 : ((d.W : Int) % 16 != 0) = false := by simp; omega
  have m2 : ((d.H : Int) % 16 != 0) = false := by simp; omega
  have q1 : (d.W : Int) / 2 = (d.W2 : Int) := by have := hd.w2; omega
  have q2 : (d.H : Int) / 2 = (d.H2 : Int) := by have := hd.h2; omega
  have HD := Lib.hid (And.intro hd (And.intro hh (And.intro q1 q2)))
  have h0 := (Sat.nil (fun _ => False) w).alloc 37 #[.int .i64 0, .int .i64 0, .slice none 0 0, .int .i64 0, .int .i64 0, .slice none 0 0, .int .i64 0, .int .i64 0, .slice none 0 0] rfl
  have H0 := Lib.hid h0
  clear hd hh hw16 hh16 q1 q2 h0
  go_enter Tryz.func32, Tryz.ntmps32
  go_wp2_with fail
  refine (fPNew' _ d.W d.H d.nY v HD.out.1.sides HD.out.1.ny).mono ?_
  rintro e w1 ⟨g1, rfl, hb1, hg1, hm1⟩
  have HS1 := (H0.out.quiet hm1).alloc (g := w1.heap.size) 35 #[.int .i64 (d.W : Int), .int .i64 (d.H : Int), .slice (some ⟨g1, 0, none⟩) d.nY d.nY] rfl
  have B1 := (bytes_rep (B := w.heap.size) (Nat.le_trans H0.out.mod.size hg1) hb1 a1).quiet ((Mod.refl (fun _ => False) w1).alloc (.cells #[.int .i64 (d.W : Int), .int .i64 (d.H : Int), .slice (some ⟨g1, 0, none⟩) d.nY d.nY] 35))
  have H1 := Lib.hid (And.intro HS1 B1)
  clear HS1 B1 hb1 hg1 hm1 H0
  obtain ⟨_, _, q1, q2⟩ := HD.out
  go_wp2_with fail
  clear q1 q2
  refine (fPNew' _ d.W2 d.H2 d.nC v HD.out.2.1 HD.out.1.nc).mono ?_
  rintro e w2 ⟨g2, rfl, hb1, hg1, hm1⟩
  have mm := hm1.trans ((Mod.refl (fun _ => False) w2).alloc (.cells #[.int .i64 (d.W2 : Int), .int .i64 (d.H2 : Int), .slice (some ⟨g2, 0, none⟩) d.nC d.nC] 35))
  have HS1 := (H1.out.1.quiet hm1).alloc (g := w2.heap.size) 35 #[.int .i64 (d.W2 : Int), .int .i64 (d.H2 : Int), .slice (some ⟨g2, 0, none⟩) d.nC d.nC] rfl
  have B2 := (bytes_rep (B := w.heap.size) (Nat.le_trans H1.out.1.mod.size hg1) hb1 c1).quiet ((Mod.refl (fun _ => False) w2).alloc (.cells #[.int .i64 (d.W2 : Int), .int .i64 (d.H2 : Int), .slice (some ⟨g2, 0, none⟩) d.nC d.nC] 35))
  have H2 := Lib.hid (And.intro HS1 (And.intro (H1.out.2.quiet mm) B2))
  clear HS1 B2 hb1 hg1 hm1 mm H1
  obtain ⟨_, _, q1, q2⟩ := HD.out
  go_wp2_with fail
  clear q1 q2
  refine (fPNew' _ d.W2 d.H2 d.nC v HD.out.2.1 HD.out.1.nc).mono ?_
  rintro e w3 ⟨g3, rfl, hb1, hg1, hm1⟩
  have mm := hm1.trans ((Mod.refl (fun _ => False) w3).alloc (.cells #[.int .i64 (d.W2 : Int), .int .i64 (d.H2 : Int), .slice (some ⟨g3, 0, none⟩) d.nC d.nC] 35))
  have HS1 := (H2.out.1.quiet hm1).alloc (g := w3.heap.size) 35 #[.int .i64 (d.W2 : Int), .int .i64 (d.H2 : Int), .slice (some ⟨g3, 0, none⟩) d.nC d.nC] rfl
  have B2 := (bytes_rep (B := w.heap.size) (Nat.le_trans H2.out.1.mod.size hg1) hb1 c1).quiet ((Mod.refl (fun _ => False) w3).alloc (.cells #[.int .i64 (d.W2 : Int), .int .i64 (d.H2 : Int), .slice (some ⟨g3, 0, none⟩) d.nC d.nC] 35))
  obtain ⟨c80, c8f⟩ := (HS1.own_ 2 rfl).both
  obtain ⟨c90, c9f⟩ := (HS1.own_ 1 rfl).both
  obtain ⟨c70, c7f⟩ := (HS1.own_ 0 rfl).both
  obtain ⟨rc, rf⟩ := (HS1.own_ 3 rfl).both
  have rl := (HS1.own_ 3 rfl).lt
  have H3 := Lib.hid (And.intro HS1 (And.intro (H2.out.2.1.quiet mm) (And.intro (H2.out.2.2.quiet mm) B2)))
  clear HS1 B2 hb1 hg1 hm1 mm H2
  go_wp2_with fail
  have hres := H3.out.1.own_ 3 rfl
  dsimp only at hres
  have hp := (fr_put9 hres (.int .i64 (d.W : Int)) (.int .i64 (d.H : Int)) (.slice (some ⟨g1, 0, none⟩) d.nY d.nY) (.int .i64 (d.W2 : Int)) (.int .i64 (d.H2 : Int)) (.slice (some ⟨g2, 0, none⟩) d.nC d.nC) (.int .i64 (d.W2 : Int)) (.int .i64 (d.H2 : Int)) (.slice (some ⟨g3, 0, none⟩) d.nC d.nC)).2
  have hf : FrB _ w.heap.size d g1 d.nY g2 d.nC g3 d.nC (blankPix d v) := ⟨H3.out.2.1, H3.out.2.2.1, H3.out.2.2.2, by simp [blankPix], by simp [blankPix], by simp [blankPix]⟩
  refine bodyPost_ret (v := .tuple #[.agg (frV d g1 d.nY g2 d.nC g3 d.nC).toArray, .int .i64 0]) (by simp [results, Tryz.results32, go_sem, rc, frV]) rfl ⟨_, rfl, ⟨_, _, _, _, _, _, rfl, hf.mod hp (fun j e => .inr ⟨_, _, by subst e; exact hres, by decide⟩)⟩, H3.out.1.mod.into hp (fun i e => .inr (by omega))⟩
end Go.Proofs.YteppnjgfebcmjaaGreat

/-
  The reference's frames: deblock's Frame.
-/
namespace Go.Proofs.YteppnjgfebcmjaaGreat
open Go.RowKit

set_option maxRecDepth 100000 in
set_option maxHeartbeats 4000000 in
theorem fDebFrame (w : World) (B : Nat) (d : Dim) (hd : d.Ok) (hs : d.nY ≤ 1048576) (b0 k0 b1 k1 b2 k2 : Nat) (f : Pix) (hf : FrB w B d b0 k0 b1 k1 b2 k2 f) (q : Nat) (hq : q ≤ 31) : Calls Tryz.prog 35 #[.agg (frV d b0 k0 b1 k1 b2 k2).toArray, .int .i64 (q : Int)] w (FBlankPost w d (smPix q d f)) := by
  have HC := fWhole ((w.alloc (.cells (frV d b0 k0 b1 k1 b2 k2).toArray 37)).alloc (.cells #[.int .i64 0, .int .i64 0, .slice none 0 0, .int .i64 0, .int .i64 0, .slice none 0 0, .int .i64 0, .int .i64 0, .slice none 0 0] 37)) d hd b0 k0 b1 k1 b2 k2
  have hh := hd.half
  obtain ⟨a1, a2, a3, a4, a5, a6⟩ := area_le hd.sides
  obtain ⟨c1, c2, c3, c4, c5, c6⟩ := area_le hh
  rw [← hd.ny] at a1 a6
  rw [← hd.nc] at c1 c6
  have hsc : d.nC ≤ 1048576 := by
    have h1 := hd.w2
    have h2 := hd.h2
    have h3 : d.W2 * d.H2 ≤ d.W * d.H := Nat.mul_le_mul (by omega) (by omega)
    rw [← hd.nc, ← hd.ny] at h3
    omega
  have t1 : decide ((q : Int) < 0) = false := decide_eq_false (by omega)
  have t2 : decide (31 < (q : Int)) = false := decide_eq_false (by omega)
  have h0 := ((Sat.nil (fun _ => False) w).alloc 37 (frV d b0 k0 b1 k1 b2 k2).toArray rfl).alloc (g := w.heap.size + 1) 37 #[.int .i64 0, .int .i64 0, .slice none 0 0, .int .i64 0, .int .i64 0, .slice none 0 0, .int .i64 0, .int .i64 0, .slice none 0 0] (by simp)
  have HD := Lib.hid (And.intro hd (And.intro hh (And.intro (And.intro hs hsc) (And.intro hf (And.intro a6 c6)))))
  have H0 := Lib.hid h0
  clear hd hh h0 hs hsc hf a1 a6 c1 c6
  unfold frV at HC ⊢
  go_enter Tryz.func35, Tryz.ntmps35
  go_wp2_with fail
  refine HC.mono ?_
  clear HC
  rintro e w1 ⟨rfl, hm1⟩
  have HS := H0.out.quiet hm1
  obtain ⟨pc, pf⟩ := (HS.own_ 1 rfl).both
  unfold frV at pc
  have H1 := Lib.hid HS
  clear hm1 HS H0
  go_wp2_with fail
  refine (fDebPlane _ d.W d.H _ d.nY k0 f.Y q HD.out.1.sides HD.out.1.ny HD.out.2.2.1.1 ((HD.out.2.2.2.1.y.in_n HD.out.2.2.2.1.ly).quiet H1.out.mod) hq).mono ?_
  rintro e w2 ⟨g1, l1, rfl, hb1, hm1⟩
  have mm := hm1.trans ((Mod.refl (fun _ => False) w2).alloc (.cells #[.int .i64 (d.W : Int), .int .i64 (d.H : Int), .slice (some ⟨g1, 0, none⟩) d.nY l1] 35))
  have HS1 := (H1.out.quiet hm1).alloc (g := w2.heap.size) 35 #[.int .i64 (d.W : Int), .int .i64 (d.H : Int), .slice (some ⟨g1, 0, none⟩) d.nY l1] rfl
  have B1 := (hb1.down H1.out.mod.size).quiet ((Mod.refl (fun _ => False) w2).alloc (.cells #[.int .i64 (d.W : Int), .int .i64 (d.H : Int), .slice (some ⟨g1, 0, none⟩) d.nY l1] 35))
  clear pc pf
  obtain ⟨pc, pf⟩ := (HS1.own_ 2 rfl).both
  unfold frV at pc
  have H2 := Lib.hid (And.intro HS1 B1)
  clear HS1 B1 hb1 hm1 mm H1
  go_wp2_with fail
  refine (fDebPlane _ d.W2 d.H2 _ d.nC k1 f.U q HD.out.2.1 HD.out.1.nc HD.out.2.2.1.2 ((HD.out.2.2.2.1.u.in_n HD.out.2.2.2.1.lu).quiet H2.out.1.mod) hq).mono ?_
  rintro e w3 ⟨g2, l2, rfl, hb1, hm1⟩
  have mm := hm1.trans ((Mod.refl (fun _ => False) w3).alloc (.cells #[.int .i64 (d.W2 : Int), .int .i64 (d.H2 : Int), .slice (some ⟨g2, 0, none⟩) d.nC l2] 35))
  have HS1 := (H2.out.1.quiet hm1).alloc (g := w3.heap.size) 35 #[.int .i64 (d.W2 : Int), .int .i64 (d.H2 : Int), .slice (some ⟨g2, 0, none⟩) d.nC l2] rfl
  have B2 := (hb1.down H2.out.1.mod.size).quiet ((Mod.refl (fun _ => False) w3).alloc (.cells #[.int .i64 (d.W2 : Int), .int .i64 (d.H2 : Int), .slice (some ⟨g2, 0, none⟩) d.nC l2] 35))
  clear pc pf
  obtain ⟨pc, pf⟩ := (HS1.own_ 3 rfl).both
  unfold frV at pc
  have H3 := Lib.hid (And.intro HS1 (And.intro (H2.out.2.quiet mm) B2))
  clear HS1 B2 hb1 hm1 mm H2
  go_wp2_with fail
  refine (fDebPlane _ d.W2 d.H2 _ d.nC k2 f.V q HD.out.2.1 HD.out.1.nc HD.out.2.2.1.2 ((HD.out.2.2.2.1.v.in_n HD.out.2.2.2.1.lv).quiet H3.out.1.mod) hq).mono ?_
  rintro e w4 ⟨g3, l3, rfl, hb1, hm1⟩
  have mm := hm1.trans ((Mod.refl (fun _ => False) w4).alloc (.cells #[.int .i64 (d.W2 : Int), .int .i64 (d.H2 : Int), .slice (some ⟨g3, 0, none⟩) d.nC l3] 35))
  have HS1 := (H3.out.1.quiet hm1).alloc (g := w4.heap.size) 35 #[.int .i64 (d.W2 : Int), .int .i64 (d.H2 : Int), .slice (some ⟨g3, 0, none⟩) d.nC l3] rfl
  have B2 := (hb1.down H3.out.1.mod.size).quiet ((Mod.refl (fun _ => False) w4).alloc (.cells #[.int .i64 (d.W2 : Int), .int .i64 (d.H2 : Int), .slice (some ⟨g3, 0, none⟩) d.nC l3] 35))
  clear pc pf
  obtain ⟨c80, c8f⟩ := (HS1.own_ 2 rfl).both
  obtain ⟨c90, c9f⟩ := (HS1.own_ 1 rfl).both
  obtain ⟨c70, c7f⟩ := (HS1.own_ 0 rfl).both
  obtain ⟨rc, rf⟩ := (HS1.own_ 3 rfl).both
  have rl := (HS1.own_ 3 rfl).lt
  have H4 := Lib.hid (And.intro HS1 (And.intro (H3.out.2.1.quiet mm) (And.intro (H3.out.2.2.quiet mm) B2)))
  clear HS1 B2 hb1 hm1 mm H3
  go_wp2_with fail
  have hres := H4.out.1.own_ 3 rfl
  dsimp only at hres
  have hp := (fr_put9 hres (.int .i64 (d.W : Int)) (.int .i64 (d.H : Int)) (.slice (some ⟨g1, 0, none⟩) d.nY l1) (.int .i64 (d.W2 : Int)) (.int .i64 (d.H2 : Int)) (.slice (some ⟨g2, 0, none⟩) d.nC l2) (.int .i64 (d.W2 : Int)) (.int .i64 (d.H2 : Int)) (.slice (some ⟨g3, 0, none⟩) d.nC l3)).2
  have hf : FrB _ w.heap.size d g1 l1 g2 l2 g3 l3 (smPix q d f) := ⟨H4.out.2.1, H4.out.2.2.1, H4.out.2.2.2, smPlane_length.trans HD.out.2.2.2.1.ly, smPlane_length.trans HD.out.2.2.2.1.lu, smPlane_length.trans HD.out.2.2.2.1.lv⟩
  refine bodyPost_ret (v := .tuple #[.agg (frV d g1 l1 g2 l2 g3 l3).toArray, .int .i64 0]) (by simp [results, Tryz.results35, go_sem, rc, frV]) rfl ⟨_, rfl, ⟨_, _, _, _, _, _, rfl, hf.mod hp (fun j e => .inr ⟨_, _, by subst e; exact hres, by decide⟩)⟩, H4.out.1.mod.into hp (fun i e => .inr (by omega))⟩
end Go.Proofs.YteppnjgfebcmjaaGreat

/-
  The reference's decoder: a frame's planes, places.
-/
namespace Go.Proofs.YteppnjgfebcmjaaGreat
open Go.RowKit

def pick3 (pl a b c : Nat) : Nat := if pl = 0 then a else if pl = 1 then b else c
def Dim.nOf (d : Dim) (pl : Nat) : Nat := if pl = 0 then d.nY else d.nC
def plV (d : Dim) (pl b k : Nat) : Array Value := #[.int .i64 (d.wOf pl : Int), .int .i64 (d.hOf pl : Int), .slice (some ⟨b, 0, none⟩) (d.nOf pl) k]
theorem FrB.of {w : World} {B : Nat} {d : Dim} {b0 k0 b1 k1 b2 k2 : Nat} {f : Pix} (h : FrB w B d b0 k0 b1 k1 b2 k2 f) {pl : Nat} (hpl : pl < 3) : Bytes w B (.slice (some ⟨pick3 pl b0 b1 b2, 0, none⟩) (d.nOf pl) (pick3 pl k0 k1 k2)) (f.get pl) ∧ (f.get pl).length = d.nOf pl := by
  have h3 : pl = 0 ∨ pl = 1 ∨ pl = 2 := by omega
  rcases h3 with rfl | rfl | rfl
  · exact ⟨h.y, h.ly⟩
  · exact ⟨h.u, h.lu⟩
  · exact ⟨h.v, h.lv⟩
theorem FrB.set {w : World} {B : Nat} {d : Dim} {b0 k0 b1 k1 b2 k2 : Nat} {f : Pix} (h : FrB w B d b0 k0 b1 k1 b2 k2 f) {pl b k : Nat} (hpl : pl < 3) {l : List UInt8} (hb : Bytes w B (.slice (some ⟨b, 0, none⟩) (d.nOf pl) k) l) (hl : l.length = d.nOf pl) :
    FrB w B d (if pl = 0 then b else b0) (if pl = 0 then k else k0) (if pl = 1 then b else b1) (if pl = 1 then k else k1) (if pl = 2 then b else b2) (if pl = 2 then k else k2) (f.set pl l) := by
  have h3 : pl = 0 ∨ pl = 1 ∨ pl = 2 := by omega
  rcases h3 with rfl | rfl | rfl
  · exact ⟨hb, h.u, h.v, hl, h.lu, h.lv⟩
  · exact ⟨h.y, hb, h.v, h.ly, hl, h.lv⟩
  · exact ⟨h.y, h.u, hb, h.ly, h.lu, hl⟩
theorem Dim.Ok.of {d : Dim} (h : d.Ok) (pl : Nat) : sidesB (d.wOf pl) (d.hOf pl) = true ∧ d.nOf pl = d.wOf pl * d.hOf pl := by
  unfold Dim.wOf Dim.hOf Dim.nOf
  by_cases e : pl = 0
  · rw [if_pos e, if_pos e, if_pos e]; exact ⟨h.sides, h.ny⟩
  · rw [if_neg e, if_neg e, if_neg e]; exact ⟨h.half, h.nc⟩
theorem Dim.Ok.nle {d : Dim} (h : d.Ok) (hs : d.nY ≤ 1048576) (pl : Nat) : d.nOf pl ≤ 1048576 := by
  unfold Dim.nOf
  by_cases e : pl = 0
  · rw [if_pos e]; exact hs
  · rw [if_neg e]
    have h1 := h.w2
    have h2 := h.h2
    have h3 : d.W2 * d.H2 ≤ d.W * d.H := Nat.mul_le_mul (by omega) (by omega)
    rw [← h.nc, ← h.ny] at h3
    omega

set_option maxRecDepth 100000 in
set_option maxHeartbeats 1000000 in
theorem fPlaneOf (w : World) (d : Dim) (b0 k0 b1 k1 b2 k2 pl : Nat) (hpl : pl < 3) : Calls Tryz.prog 77 #[.agg (frV d b0 k0 b1 k1 b2 k2).toArray, .int .i64 (pl : Int)] w fun e w' => e = .returned (.agg (plV d pl (pick3 pl b0 b1 b2) (pick3 pl k0 k1 k2))) ∧ Mod (fun _ => False) w w' := by
  have h3 : pl = 0 ∨ pl = 1 ∨ pl = 2 := by omega
  have hM : ∀ o o' u0 u1 u2, Mod (fun _ => False) w (((((w.alloc o).alloc o').setCell ⟨w.heap.size + 1, 0, none⟩ u0).setCell ⟨w.heap.size + 1, 1, none⟩ u1).setCell ⟨w.heap.size + 1, 2, none⟩ u2) := fun o o' u0 u1 u2 =>
    (((((Mod.refl _ _).alloc o).alloc o').setCell (.inr (Nat.le_succ _)) u0).setCell (.inr (Nat.le_succ _)) u1).setCell (.inr (Nat.le_succ _)) u2
  rcases h3 with rfl | rfl | rfl
  · unfold frV plV
    go_enter Tryz.func77, Tryz.ntmps77
    go_wp2_with fail
    exact bodyPost_ret (v := .agg #[.int .i64 (d.W : Int), .int .i64 (d.H : Int), .slice (some ⟨b0, 0, none⟩) d.nY k0]) (by simp [results, Tryz.results77, go_sem]) rfl ⟨rfl, ((Mod.refl _ _).alloc _).alloc _⟩
  · unfold frV plV
    go_enter Tryz.func77, Tryz.ntmps77
    go_wp2_with fail
    exact bodyPost_ret (v := .agg #[.int .i64 (d.W2 : Int), .int .i64 (d.H2 : Int), .slice (some ⟨b1, 0, none⟩) d.nC k1]) (by simp [results, Tryz.results77, go_sem]) rfl ⟨rfl, ((Mod.refl _ _).alloc _).alloc _⟩
  · unfold frV plV
    go_enter Tryz.func77, Tryz.ntmps77
    go_wp2_with fail
    exact bodyPost_ret (v := .agg #[.int .i64 (d.W2 : Int), .int .i64 (d.H2 : Int), .slice (some ⟨b2, 0, none⟩) d.nC k2]) (by simp [results, Tryz.results77, go_sem]) rfl ⟨rfl, ((Mod.refl _ _).alloc _).alloc _⟩
set_option maxRecDepth 100000 in
set_option maxHeartbeats 2000000 in
theorem fWith (w : World) (d : Dim) (b0 k0 b1 k1 b2 k2 pl b k : Nat) (hpl : pl < 3) : Calls Tryz.prog 115 #[.agg (frV d b0 k0 b1 k1 b2 k2).toArray, .int .i64 (pl : Int), .agg (plV d pl b k)] w fun e w' => e = .returned (.agg (frV d (if pl = 0 then b else b0) (if pl = 0 then k else k0) (if pl = 1 then b else b1) (if pl = 1 then k else k1) (if pl = 2 then b else b2) (if pl = 2 then k else k2)).toArray) ∧ Mod (fun _ => False) w w' := by
  have h3 : pl = 0 ∨ pl = 1 ∨ pl = 2 := by omega
  rcases h3 with rfl | rfl | rfl
  · refine Calls.mono (R := fun e w' => e = .returned (.agg (frV d b k b1 k1 b2 k2).toArray) ∧ Mod (fun _ => False) w w') ?_ (fun _ _ h => h)
    unfold frV plV
    go_enter Tryz.func115, Tryz.ntmps115
    go_wp2_with fail
    exact bodyPost_ret (v := .agg #[.int .i64 (d.W : Int), .int .i64 (d.H : Int), .slice (some ⟨b, 0, none⟩) d.nY k, .int .i64 (d.W2 : Int), .int .i64 (d.H2 : Int), .slice (some ⟨b1, 0, none⟩) d.nC k1, .int .i64 (d.W2 : Int), .int .i64 (d.H2 : Int), .slice (some ⟨b2, 0, none⟩) d.nC k2]) (by simp [results, Tryz.results115, go_sem, Dim.wOf, Dim.hOf, Dim.nOf]) rfl ⟨rfl, (((Mod.refl _ _).alloc _).alloc _).alloc _⟩
  · refine Calls.mono (R := fun e w' => e = .returned (.agg (frV d b0 k0 b k b2 k2).toArray) ∧ Mod (fun _ => False) w w') ?_ (fun _ _ h => h)
    unfold frV plV
    go_enter Tryz.func115, Tryz.ntmps115
    go_wp2_with fail
    exact bodyPost_ret (v := .agg #[.int .i64 (d.W : Int), .int .i64 (d.H : Int), .slice (some ⟨b0, 0, none⟩) d.nY k0, .int .i64 (d.W2 : Int), .int .i64 (d.H2 : Int), .slice (some ⟨b, 0, none⟩) d.nC k, .int .i64 (d.W2 : Int), .int .i64 (d.H2 : Int), .slice (some ⟨b2, 0, none⟩) d.nC k2]) (by simp [results, Tryz.results115, go_sem, Dim.wOf, Dim.hOf, Dim.nOf]) rfl ⟨rfl, (((Mod.refl _ _).alloc _).alloc _).alloc _⟩
  · refine Calls.mono (R := fun e w' => e = .returned (.agg (frV d b0 k0 b1 k1 b k).toArray) ∧ Mod (fun _ => False) w w') ?_ (fun _ _ h => h)
    unfold frV plV
    go_enter Tryz.func115, Tryz.ntmps115
    go_wp2_with fail
    exact bodyPost_ret (v := .agg #[.int .i64 (d.W : Int), .int .i64 (d.H : Int), .slice (some ⟨b0, 0, none⟩) d.nY k0, .int .i64 (d.W2 : Int), .int .i64 (d.H2 : Int), .slice (some ⟨b1, 0, none⟩) d.nC k1, .int .i64 (d.W2 : Int), .int .i64 (d.H2 : Int), .slice (some ⟨b, 0, none⟩) d.nC k]) (by simp [results, Tryz.results115, go_sem, Dim.wOf, Dim.hOf, Dim.nOf]) rfl ⟨rfl, (((Mod.refl _ _).alloc _).alloc _).alloc _⟩
set_option maxRecDepth 100000 in
theorem fTopic13 (w : World) (pl : Nat) (x y : Int) : Calls Tryz.prog 119 #[.agg #[.int .i64 (pl : Int), .int .i64 x, .int .i64 y]] w fun e w' => e = .returned (.int .i64 (((if 0 < pl then 4 else 2 : Nat)) : Int)) ∧ Mod (fun _ => False) w w' := by
  by_cases h : pl = 0
  · subst h
    go_enter Tryz.func119, Tryz.ntmps119
    go_wp2_with fail
    go_ret
    exact ⟨rfl, (Mod.refl _ _).alloc _⟩
  · have d1 : ((pl : Int) == 0) = false := by rw [beq_eq_false_iff_ne]; omega
    rw [if_pos (by omega)]
    clear h
    go_enter Tryz.func119, Tryz.ntmps119
    go_wp2_with fail
    go_ret
    exact ⟨rfl, (Mod.refl _ _).alloc _⟩
set_option maxRecDepth 100000 in
set_option maxHeartbeats 1000000 in
theorem fPlaces (w : World) (x y : Nat) (hx : x ≤ 4096) (hy : y ≤ 4096) : Calls Tryz.prog 72 #[.int .i64 (x : Int), .int .i64 (y : Int)] w fun e w' => ∃ b, e = .returned (.slice (some ⟨b, 0, none⟩) 6 6) ∧ Blk w' b 131 (plL x y).toArray ∧ w.heap.size ≤ b ∧ Mod (fun _ => False) w w' := by
  go_enter Tryz.func72, Tryz.ntmps72
  go_wp2_with fail
  go_ret
  exact ⟨w.heap.size, rfl, Blk.new _ _ _, Nat.le_refl _, (Mod.refl _ _).alloc _⟩
end Go.Proofs.YteppnjgfebcmjaaGreat
