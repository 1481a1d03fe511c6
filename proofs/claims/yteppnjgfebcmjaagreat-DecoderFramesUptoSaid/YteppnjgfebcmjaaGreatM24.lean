/-
  plane.Whole, plane.Copy, deblock.Frame of right frames.
-/
import Derived.Test.YteppnjgfebcmjaaGreatM23
import Derived.Test.YteppnjgfebcmjaaGreatM22
import Derived.Test.YteppnjgfebcmjaaGreatM10
import Derived.Test.YteppnjgfebcmjaaGreatM19
import Derived.Deep.RegionHeld3
namespace Go.Proofs.YteppnjgfebcmjaaGreat
open Go.RowKit

theorem blkIn {w : World} {g n : Nat} {L : List UInt8} (h : Blk w g 5 (u8s L).toArray) (hl : L.length = n) (hn : n ≤ 16777216) : BytesIn w (some ⟨g, 0, none⟩) n n L := by
  subst hl
  exact (Bytes.of_blk (Nat.zero_le _) h (by unfold maxLen; omega)).in_
theorem Dim.Ok.nyle {d : Dim} (h : d.Ok) : d.nY ≤ 16777216 := by rw [h.ny]; exact (area_le h.sides).1
theorem Dim.Ok.ncle {d : Dim} (h : d.Ok) : d.nC ≤ 16777216 := by rw [h.nc]; exact (area_le h.half).1

set_option maxRecDepth 100000 in
set_option maxHeartbeats 2000000 in
theorem pWhole (w : World) (d : Dim) (hd : d.Ok) (gy gu gv : Nat) : Calls Tryz.prog 22 #[.agg (frameV d gy gu gv).toArray] w fun e w' => e = .returned (.bool true) ∧ Mod (fun _ => False) w w' := by
  unfold frameV
  have HD := Lib.hid hd
  obtain ⟨_, b1, b2, b3, b4, _⟩ := area_le hd.sides
  obtain ⟨_, b5, b6, b7, b8, _⟩ := area_le hd.half
  have m1 : ((d.W : Int) % 16 == 0) = true := by have := hd.w16; simp; omega
  have m2 : ((d.H : Int) % 16 == 0) = true := by have := hd.h16; simp; omega
  have q1 : (d.W : Int) / 2 = (d.W2 : Int) := by have := hd.w2; omega
  have q2 : (d.H : Int) / 2 = (d.H2 : Int) := by have := hd.h2; omega
  have HM := Lib.hid (And.intro m1 (And.intro m2 (And.intro q1 q2)))
  clear hd m1 m2 q1 q2
  have h0 := (Sat.nil (fun _ => False) w)
  go_enter Tryz.func22, Tryz.ntmps22
  go_wp2_with fail
  refine (pRight' _ d.W d.H _ d.nY _ HD.out.sides HD.out.ny).mono ?_
  rintro e w1 ⟨rfl, hm1⟩
  have HS := Sat.after hm1 (h0.alloc _ _ rfl)
  clear hm1 h0
  obtain ⟨pc, pf⟩ := (HS.own_ 0 rfl).both
  have H1 := Lib.hid HS
  clear HS
  go_wp2_with fail
  refine (pRight' _ d.W2 d.H2 _ d.nC _ HD.out.half HD.out.nc).mono ?_
  rintro e w2 ⟨rfl, hm2⟩
  have HS := H1.out.quiet hm2
  clear hm2 pc pf H1
  obtain ⟨pc, pf⟩ := (HS.own_ 0 rfl).both
  have H1 := Lib.hid HS
  clear HS
  go_wp2_with fail
  refine (pRight' _ d.W2 d.H2 _ d.nC _ HD.out.half HD.out.nc).mono ?_
  rintro e w3 ⟨rfl, hm3⟩
  have HS := H1.out.quiet hm3
  clear hm3 pc pf H1
  obtain ⟨pc, pf⟩ := (HS.own_ 0 rfl).both
  have H1 := Lib.hid HS
  clear HS
  obtain ⟨m1, m2, q1, q2⟩ := HM.out
  go_wp2_with fail
  go_ret
  exact ⟨rfl, H1.out.mod⟩

def smPix (q : Nat) (d : Dim) (f : Pix) : Pix := ⟨smPlane q d.W d.H f.Y, smPlane q d.W2 d.H2 f.U, smPlane q d.W2 d.H2 f.V⟩
def FramePost (w : World) (d : Dim) (f : Pix) (e : Ending) (w' : World) : Prop := ∃ p, e = .returned (.tuple #[p, .int .i64 0]) ∧ FrameMade w d f p w' ∧ Mod (fun _ => False) w w'
theorem dPlane' (w : World) (W H : Nat) (A : Option Addr) (n c : Nat) (pix : List UInt8) (q : Nat) (h : sidesB W H = true) (hn : n = W * H) (hin : BytesIn w A n c pix) (hq : q ≤ 31) :
    Calls Tryz.prog 66 #[.agg #[.int .i64 (W : Int), .int .i64 (H : Int), .slice A n c], .int .i64 (q : Int)] w
      fun e w' => ∃ g, e = .returned (.tuple #[.agg #[.int .i64 (W : Int), .int .i64 (H : Int), .slice (some ⟨g, 0, none⟩) n n], .int .i64 0]) ∧ Blk w' g 5 (u8s (smPlane q W H pix)).toArray ∧ w.heap.size ≤ g ∧ Mod (fun _ => False) w w' := by
  subst hn
  exact dPlane w W H A _ c pix q h rfl hin hq

set_option maxRecDepth 100000 in
set_option maxHeartbeats 4000000 in
theorem dFrame (w : World) (d : Dim) (hd : d.Ok) (gy gu gv : Nat) (f : Pix) (q : Nat) (hq : q ≤ 31) (hf : FrameAt w d gy gu gv f) : Calls Tryz.prog 27 #[.agg (frameV d gy gu gv).toArray, .int .i64 (q : Int)] w (FramePost w d (smPix q d f)) := by
  have HC := pWhole ((w.alloc (.cells (frameV d gy gu gv).toArray 37)).alloc (.cells #[.int .i64 0, .int .i64 0, .slice none 0 0, .int .i64 0, .int .i64 0, .slice none 0 0, .int .i64 0, .int .i64 0, .slice none 0 0] 37)) d hd gy gu gv
  unfold frameV at HC ⊢
  have HD := Lib.hid (And.intro hd hf)
  clear hd hf
  have h0 := (Sat.nil (fun _ => False) w)
  go_enter Tryz.func27, Tryz.ntmps27
  go_wp2_with fail
  refine HC.mono ?_
  clear HC
  rintro e w1 ⟨rfl, hm1⟩
  have HS := Sat.after hm1 ((h0.alloc _ _ rfl).alloc (g := w.heap.size + 1) _ _ (by simp))
  clear hm1 h0
  have H1 := Lib.hid HS
  clear HS
  go_wp2_with fail
  refine (dKnown _ q hq).mono ?_
  rintro e w2 ⟨rfl, rfl⟩
  obtain ⟨pc, pf⟩ := (H1.out.own_ 1 rfl).both
  have hs1 : w.heap.size + 2 ≤ w1.heap.size := (H1.out.own_ 0 rfl).lt
  have n1 : w.heap.size < w1.heap.size := by omega
  have HS1 := H1.out.alloc 37 #[.int .i64 0, .int .i64 0, .slice none 0 0, .int .i64 0, .int .i64 0, .slice none 0 0, .int .i64 0, .int .i64 0, .slice none 0 0] rfl
  obtain ⟨ob, hob⟩ : ∃ ob, ob = w1.heap.size := ⟨_, rfl⟩
  rw [← hob] at HS1
  have G1 := Lib.hid HS1
  clear HS1
  go_wp2_with fail
  rw [← hob]
  refine (dPlane' _ d.W d.H _ d.nY _ f.Y q HD.out.1.sides HD.out.1.ny (blkIn (HD.out.2.quiet G1.out.mod).by_ HD.out.2.ly HD.out.1.nyle) hq).mono ?_
  rintro e w2 ⟨g1, rfl, hb1, hg1, hm1⟩
  have HS := Sat.grew hm1 G1.out hb1 hg1
  clear hb1 hm1 pc pf H1 G1 hob n1 hs1
  obtain ⟨pc, pf⟩ := (HS.own_ 3 rfl).both
  obtain ⟨oc, of⟩ := (HS.own_ 1 rfl).both
  have n1 := HS.apart 1 3 rfl rfl (by omega)
  have n2 := HS.apart 1 2 rfl rfl (by omega)
  have n3 := HS.apart 2 3 rfl rfl (by omega)
  dsimp only at n1 n2 n3
  have ol := (HS.own_ 1 rfl).lt
  have pl := (HS.own_ 3 rfl).lt
  have rl := (HS.own_ 2 rfl).lt
  have HS2 := (((HS).put (g := ob) (i := 0) (u := .int .i64 (d.W : Int)) (.there (.here rfl))).put (g := ob) (i := 1) (u := .int .i64 (d.H : Int)) (.there (.here rfl))).put (g := ob) (i := 2) (u := .slice (some ⟨g1, 0, none⟩) d.nY d.nY) (.there (.here rfl))
  have G := Lib.hid HS2
  clear HS HS2
  go_wp2_with fail
  refine (dPlane' _ d.W2 d.H2 _ d.nC _ f.U q HD.out.1.half HD.out.1.nc (blkIn (HD.out.2.quiet G.out.mod).bu HD.out.2.lu HD.out.1.ncle) hq).mono ?_
  rintro e w3 ⟨g2, rfl, hb1, hg2, hm1⟩
  have HS := Sat.grew hm1 G.out hb1 hg2
  clear hb1 hm1 pc pf oc of n1 n2 n3 ol pl rl G
  obtain ⟨pc, pf⟩ := (HS.own_ 4 rfl).both
  obtain ⟨oc, of⟩ := (HS.own_ 2 rfl).both
  have n1 := HS.apart 2 4 rfl rfl (by omega)
  have n2 := HS.apart 2 3 rfl rfl (by omega)
  have n3 := HS.apart 3 4 rfl rfl (by omega)
  dsimp only at n1 n2 n3
  have ol := (HS.own_ 2 rfl).lt
  have pl := (HS.own_ 4 rfl).lt
  have rl := (HS.own_ 3 rfl).lt
  have HS2 := (((HS).put (g := ob) (i := 3) (u := .int .i64 (d.W2 : Int)) (.there (.there (.here rfl)))).put (g := ob) (i := 4) (u := .int .i64 (d.H2 : Int)) (.there (.there (.here rfl)))).put (g := ob) (i := 5) (u := .slice (some ⟨g2, 0, none⟩) d.nC d.nC) (.there (.there (.here rfl)))
  have G := Lib.hid HS2
  clear HS HS2
  go_wp2_with fail
  refine (dPlane' _ d.W2 d.H2 _ d.nC _ f.V q HD.out.1.half HD.out.1.nc (blkIn (HD.out.2.quiet G.out.mod).bv HD.out.2.lv HD.out.1.ncle) hq).mono ?_
  rintro e w4 ⟨g3, rfl, hb1, hg3, hm1⟩
  have HS := Sat.grew hm1 G.out hb1 hg3
  clear hb1 hm1 pc pf oc of n1 n2 n3 ol pl rl G
  obtain ⟨pc, pf⟩ := (HS.own_ 5 rfl).both
  have hob3 : Blk w4 ob 37 #[.int .i64 (d.W : Int), .int .i64 (d.H : Int), .slice (some ⟨g1, 0, none⟩) d.nY d.nY, .int .i64 (d.W2 : Int), .int .i64 (d.H2 : Int), .slice (some ⟨g2, 0, none⟩) d.nC d.nC, .int .i64 0, .int .i64 0, .slice none 0 0] := HS.own_ 3 rfl
  obtain ⟨oc, of⟩ := hob3.both
  obtain ⟨rc, rf⟩ := (HS.own_ 4 rfl).both
  have n1 := HS.apart 3 5 rfl rfl (by omega)
  have n2 := HS.apart 3 4 rfl rfl (by omega)
  have n3 := HS.apart 4 5 rfl rfl (by omega)
  dsimp only at n1 n2 n3
  have ol := (HS.own_ 3 rfl).lt
  have pl := (HS.own_ 5 rfl).lt
  have rl := (HS.own_ 4 rfl).lt
  have HS2 := (((HS).put (g := ob) (i := 6) (u := .int .i64 (d.W2 : Int)) (.there (.there (.there (.here rfl))))).put (g := ob) (i := 7) (u := .int .i64 (d.H2 : Int)) (.there (.there (.there (.here rfl))))).put (g := ob) (i := 8) (u := .slice (some ⟨g3, 0, none⟩) d.nC d.nC) (.there (.there (.there (.here rfl))))
  have G := Lib.hid HS2
  clear HS HS2
  clear hob3 pc pf
  go_wp2_with fail
  have HE := (((((((((G.out).put (g := w.heap.size + 1) (i := 0) (u := .int .i64 (d.W : Int)) (.there (.there (.there (.there (.here rfl)))))).put (g := w.heap.size + 1) (i := 1) (u := .int .i64 (d.H : Int)) (.there (.there (.there (.there (.here rfl)))))).put (g := w.heap.size + 1) (i := 2) (u := .slice (some ⟨g1, 0, none⟩) d.nY d.nY) (.there (.there (.there (.there (.here rfl)))))).put (g := w.heap.size + 1) (i := 3) (u := .int .i64 (d.W2 : Int)) (.there (.there (.there (.there (.here rfl)))))).put (g := w.heap.size + 1) (i := 4) (u := .int .i64 (d.H2 : Int)) (.there (.there (.there (.there (.here rfl)))))).put (g := w.heap.size + 1) (i := 5) (u := .slice (some ⟨g2, 0, none⟩) d.nC d.nC) (.there (.there (.there (.there (.here rfl)))))).put (g := w.heap.size + 1) (i := 6) (u := .int .i64 (d.W2 : Int)) (.there (.there (.there (.there (.here rfl)))))).put (g := w.heap.size + 1) (i := 7) (u := .int .i64 (d.H2 : Int)) (.there (.there (.there (.there (.here rfl)))))).put (g := w.heap.size + 1) (i := 8) (u := .slice (some ⟨g3, 0, none⟩) d.nC d.nC) (.there (.there (.there (.there (.here rfl)))))
  have h1 := HE.own_ 2 rfl
  have h2 := HE.own_ 1 rfl
  have h3 := HE.own_ 0 rfl
  dsimp only at h1 h2 h3
  have l1 : w.heap.size ≤ g1 := HE.low 2 rfl
  have l2 : w.heap.size ≤ g2 := HE.low 1 rfl
  have l3 : w.heap.size ≤ g3 := HE.low 0 rfl
  have a12 : g2 ≠ g1 := HE.apart 1 2 rfl rfl (by omega)
  have a13 : g3 ≠ g1 := HE.apart 0 2 rfl rfl (by omega)
  have a23 : g3 ≠ g2 := HE.apart 0 1 rfl rfl (by omega)
  have HM := HE.mod
  clear HE
  refine bodyPost_ret (v := .tuple #[.agg (frameV d g1 g2 g3).toArray, .int .i64 0]) (by simp [results, Tryz.results27, go_sem, rc, frameV]) rfl ⟨_, rfl, ⟨g1, g2, g3, rfl, ?_, l1, l2, l3⟩, HM⟩
  exact ⟨h1, h2, h3, smPlane_length.trans HD.out.2.ly, smPlane_length.trans HD.out.2.lu, smPlane_length.trans HD.out.2.lv, a12.symm, a13.symm, a23.symm⟩
end Go.Proofs.YteppnjgfebcmjaaGreat

/-
  plane.Copy.
-/
namespace Go.Proofs.YteppnjgfebcmjaaGreat
open Go.RowKit

theorem fr_cells {w : World} {p : Nat} {a b c d e f g h i : Value} (hb : Blk w p 37 #[a, b, c, d, e, f, g, h, i]) : w.cell? ⟨p, 0, none⟩ = some a ∧ w.cell? ⟨p, 1, none⟩ = some b ∧ w.cell? ⟨p, 2, none⟩ = some c ∧ w.cell? ⟨p, 3, none⟩ = some d ∧ w.cell? ⟨p, 4, none⟩ = some e ∧ w.cell? ⟨p, 5, none⟩ = some f ∧ w.cell? ⟨p, 6, none⟩ = some g ∧ w.cell? ⟨p, 7, none⟩ = some h ∧ w.cell? ⟨p, 8, none⟩ = some i :=
  ⟨hb.cell 0, hb.cell 1, hb.cell 2, hb.cell 3, hb.cell 4, hb.cell 5, hb.cell 6, hb.cell 7, hb.cell 8⟩

set_option maxRecDepth 100000 in
set_option maxHeartbeats 4000000 in
theorem pCopy (w : World) (d : Dim) (hd : d.Ok) (gy gu gv : Nat) (f : Pix) (hf : FrameAt w d gy gu gv f) : Calls Tryz.prog 28 #[.agg (frameV d gy gu gv).toArray] w fun e w' => ∃ p, e = .returned p ∧ FrameMade w d f p w' ∧ Mod (fun _ => False) w w' := by
  unfold frameV
  have HD := Lib.hid (And.intro hd hf)
  clear hd hf
  have HS := ((((Sat.nil (fun _ => False) w).alloc 37 #[.int .i64 (d.W : Int), .int .i64 (d.H : Int), .slice (some ⟨gy, 0, none⟩) d.nY d.nY, .int .i64 (d.W2 : Int), .int .i64 (d.H2 : Int), .slice (some ⟨gu, 0, none⟩) d.nC d.nC, .int .i64 (d.W2 : Int), .int .i64 (d.H2 : Int), .slice (some ⟨gv, 0, none⟩) d.nC d.nC] rfl).alloc (g := w.heap.size + 1) 37 #[.int .i64 0, .int .i64 0, .slice none 0 0, .int .i64 0, .int .i64 0, .slice none 0 0, .int .i64 0, .int .i64 0, .slice none 0 0] (by simp))).drew
  have x0 := HS.own_ 1 rfl
  dsimp only at x0
  go_enter Tryz.func28, Tryz.ntmps28
  go_wp2_with fail
  obtain ⟨fb, hfb⟩ : ∃ fb, fb = w.heap.size := ⟨_, rfl⟩
  rw [← hfb] at x0 HS ⊢
  obtain ⟨res, hres⟩ : ∃ res, res = fb + 1 := ⟨_, rfl⟩
  rw [← hres] at HS ⊢
  have n1 : fb ≠ res := by omega
  clear hfb hres
  go_region_held3 (fun w' => w'.cell? ⟨fb, 0, none⟩ = some (.int .i64 (d.W : Int)) ∧ w'.cell? ⟨fb, 1, none⟩ = some (.int .i64 (d.H : Int)) ∧ w'.cell? ⟨fb, 2, none⟩ = some (.slice (some ⟨gy, 0, none⟩) d.nY d.nY) ∧ w'.cell? ⟨fb, 3, none⟩ = some (.int .i64 (d.W2 : Int)) ∧ w'.cell? ⟨fb, 4, none⟩ = some (.int .i64 (d.H2 : Int)) ∧ w'.cell? ⟨fb, 5, none⟩ = some (.slice (some ⟨gu, 0, none⟩) d.nC d.nC) ∧ w'.cell? ⟨fb, 6, none⟩ = some (.int .i64 (d.W2 : Int)) ∧ w'.cell? ⟨fb, 7, none⟩ = some (.int .i64 (d.H2 : Int)) ∧ w'.cell? ⟨fb, 8, none⟩ = some (.slice (some ⟨gv, 0, none⟩) d.nC d.nC)) (first | with_reducible exact fr_cells x0 | exact fr_cells (by repeat' (first | with_reducible exact x0 | with_reducible refine Blk.far ?_ n1 _))) (first | (go_at_call 67; (with_reducible refine (pOwn _ d.W d.H (some ⟨gy, 0, none⟩) d.nY d.nY f.Y HD.out.1.nyle (blkIn (HD.out.2.quiet HS.mod).by_ HD.out.2.ly HD.out.1.nyle)).mono ?_); rintro e w2 ⟨g1, rfl, hb1, hg1, hm1⟩; have HS := Sat.grew hm1 HS hb1 hg1; have x0 := x0.keep hm1 (fun h => h); clear hb1 hg1 hm1) | (go_at_call 67; (with_reducible refine (pOwn _ d.W2 d.H2 (some ⟨gu, 0, none⟩) d.nC d.nC f.U HD.out.1.ncle (blkIn (HD.out.2.quiet HS.mod).bu HD.out.2.lu HD.out.1.ncle)).mono ?_); rintro e w3 ⟨g2, rfl, hb1, hg1, hm1⟩; have HS := Sat.grew hm1 HS hb1 hg1; have x0 := x0.keep hm1 (fun h => h); clear hb1 hg1 hm1) | (go_at_call 67; (with_reducible refine (pOwn _ d.W2 d.H2 (some ⟨gv, 0, none⟩) d.nC d.nC f.V HD.out.1.ncle (blkIn (HD.out.2.quiet HS.mod).bv HD.out.2.lv HD.out.1.ncle)).mono ?_); rintro e w4 ⟨g3, rfl, hb1, hg1, hm1⟩; have HS := Sat.grew hm1 HS hb1 hg1; have x0 := x0.keep hm1 (fun h => h); clear hb1 hg1 hm1; obtain ⟨rc, rf⟩ := (HS.own_ 3 rfl).both))
  have HE := (((((((((HS).put (g := res) (i := 0) (u := .int .i64 (d.W : Int)) (.there (.there (.there (.here rfl))))).put (g := res) (i := 1) (u := .int .i64 (d.H : Int)) (.there (.there (.there (.here rfl))))).put (g := res) (i := 2) (u := .slice (some ⟨g1, 0, none⟩) d.nY d.nY) (.there (.there (.there (.here rfl))))).put (g := res) (i := 3) (u := .int .i64 (d.W2 : Int)) (.there (.there (.there (.here rfl))))).put (g := res) (i := 4) (u := .int .i64 (d.H2 : Int)) (.there (.there (.there (.here rfl))))).put (g := res) (i := 5) (u := .slice (some ⟨g2, 0, none⟩) d.nC d.nC) (.there (.there (.there (.here rfl))))).put (g := res) (i := 6) (u := .int .i64 (d.W2 : Int)) (.there (.there (.there (.here rfl))))).put (g := res) (i := 7) (u := .int .i64 (d.H2 : Int)) (.there (.there (.there (.here rfl))))).put (g := res) (i := 8) (u := .slice (some ⟨g3, 0, none⟩) d.nC d.nC) (.there (.there (.there (.here rfl))))
  clear x0
  have h1 := HE.own_ 2 rfl
  have h2 := HE.own_ 1 rfl
  have h3 := HE.own_ 0 rfl
  dsimp only at h1 h2 h3
  have l1 : w.heap.size ≤ g1 := HE.low 2 rfl
  have l2 : w.heap.size ≤ g2 := HE.low 1 rfl
  have l3 : w.heap.size ≤ g3 := HE.low 0 rfl
  have a12 : g2 ≠ g1 := HE.apart 1 2 rfl rfl (by omega)
  have a13 : g3 ≠ g1 := HE.apart 0 2 rfl rfl (by omega)
  have a23 : g3 ≠ g2 := HE.apart 0 1 rfl rfl (by omega)
  have HM := HE.mod
  clear HE HS
  go_wp2_with fail
  refine bodyPost_ret (v := .agg (frameV d g1 g2 g3).toArray) (by simp [results, Tryz.results28, go_sem, rc, frameV]) rfl ⟨_, rfl, ⟨g1, g2, g3, rfl, ?_, l1, l2, l3⟩, HM⟩
  exact ⟨h1, h2, h3, HD.out.2.ly, HD.out.2.lu, HD.out.2.lv, a12.symm, a13.symm, a23.symm⟩
end Go.Proofs.YteppnjgfebcmjaaGreat

/-
  The reference's planes: Copy.
-/
namespace Go.Proofs.YteppnjgfebcmjaaGreat
open Go.RowKit

theorem Bytes.ne_ {w : World} {B b n c : Nat} {l : List UInt8} (h : Bytes w B (.slice (some ⟨b, 0, none⟩) n c) l) {g : Nat} {t : TypeId} {cs : Array Value} (hb : Blk w g t cs) (ht : t ≠ 5) : b ≠ g := by
  rintro rfl
  rcases h.2 with ⟨h', _⟩ | ⟨g', cap', cur, h', _, hg, _⟩
  · cases h'
  · injection h' with e1 e2 e3
    injection e1 with e1
    injection e1 with e1 _ _
    subst e1
    have h2 : w.heap[b]? = some (.cells cs t (0, 0)) := hb
    rw [hg] at h2
    injection h2 with h2
    injection h2 with _ h3 _
    exact ht h3.symm
theorem Bytes.far {w : World} {B b n c : Nat} {l : List UInt8} (h : Bytes w B (.slice (some ⟨b, 0, none⟩) n c) l) {p : Addr} (hp : b ≠ p.block) (u : Value) : Bytes (w.setCell p u) B (.slice (some ⟨b, 0, none⟩) n c) l :=
  h.mod ((Mod.refl (· = p.block) w).setCell (.inl rfl) u) (fun g e => by simp only [Value.ownBlock, Option.some.injEq] at e; subst e; exact hp)
theorem Bytes.put {w : World} {B b n c : Nat} {l : List UInt8} (h : Bytes w B (.slice (some ⟨b, 0, none⟩) n c) l) (i : Nat) (x : UInt8) : Bytes (w.setCell ⟨b, i, none⟩ (.int .u8 (x.toNat : Int))) B (.slice (some ⟨b, 0, none⟩) n c) (l.set i x) := by
  have hn : n = l.length := by
    rcases h.2 with ⟨h', _⟩ | ⟨g', cap', cur, h', _⟩
    · cases h'
    · injection h'
  subst hn
  have h1 := (World.ownsRow.stored h i (.int .u8 (x.toNat : Int))).1
  have e : u8s (l.set i x) = (u8s l).set i (.int .u8 (x.toNat : Int)) := by simp [u8s, List.map_set]
  unfold Bytes
  rw [e, List.length_set]
  exact h1
theorem Bytes.low {w : World} {B b n c : Nat} {l : List UInt8} (h : Bytes w B (.slice (some ⟨b, 0, none⟩) n c) l) : B ≤ b ∧ b < w.heap.size := World.ownsRow.lt h b rfl
theorem Bytes.frozen {w : World} {B b n c : Nat} {l : List UInt8} (h : Bytes w B (.slice (some ⟨b, 0, none⟩) n c) l) (j : Nat) : w.frozen? ⟨b, j, none⟩ = false := by
  have hn : n = l.length := by
    rcases h.2 with ⟨h', _⟩ | ⟨g', cap', cur, h', _⟩
    · cases h'
    · injection h'
  subst hn
  exact World.ownsRow.frozenAt h j
set_option maxRecDepth 100000 in
set_option maxHeartbeats 2000000 in
theorem fPCopy (w : World) (W H : Int) (A : Option Addr) (n c : Nat) (pix : List UInt8) (h0 : 0 < n) (hn : n ≤ 1048576) (hin : BytesIn w A n c pix) :
    Calls Tryz.prog 122 #[.agg #[.int .i64 W, .int .i64 H, .slice A n c]] w fun e w' => ∃ b k, e = .returned (.agg #[.int .i64 W, .int .i64 H, .slice (some ⟨b, 0, none⟩) n k]) ∧ Bytes w' w.heap.size (.slice (some ⟨b, 0, none⟩) n k) pix ∧ Mod (fun _ => False) w w' := by
  have HS := ((Sat.nil (fun _ => False) w).alloc 35 #[.int .i64 W, .int .i64 H, .slice A n c] rfl).alloc (g := w.heap.size + 1) 35 #[.int .i64 0, .int .i64 0, .slice none 0 0] (by simp)
  have HS3 := HS.alloc (g := w.heap.size + 1 + 1) 5 #[] (by simp)
  have ho1 : Bytes (((w.alloc (.cells #[.int .i64 W, .int .i64 H, .slice A n c] 35)).alloc (.cells #[.int .i64 0, .int .i64 0, .slice none 0 0] 35)).alloc (.cells #[] 5)) w.heap.size (.slice (some ⟨w.heap.size + 1 + 1, 0, none⟩) 0 0) [] := by
    have h := World.ownsRow_made (base := w.heap.size) (e := 5) (size := 1) ((w.alloc (.cells #[.int .i64 W, .int .i64 H, .slice A n c] 35)).alloc (.cells #[.int .i64 0, .int .i64 0, .slice none 0 0] 35)) #[] 0 (by simp; omega) (by decide) rfl
    have e : ((w.alloc (.cells #[.int .i64 W, .int .i64 H, .slice A n c] 35)).alloc (.cells #[.int .i64 0, .int .i64 0, .slice none 0 0] 35)).heap.size = w.heap.size + 1 + 1 := by simp
    rw [e] at h
    exact h
  have hin3 := hin.quiet HS3.mod
  have hl := hin.1
  have hsz : w.heap.size ≤ (((w.alloc (.cells #[.int .i64 W, .int .i64 H, .slice A n c] 35)).alloc (.cells #[.int .i64 0, .int .i64 0, .slice none 0 0] 35)).alloc (.cells #[] 5)).heap.size := HS3.mod.size
  have H0 := Lib.hid (And.intro HS3 (And.intro ho1 (And.intro hin3 (And.intro hl hsz))))
  clear HS HS3 hin ho1 hin3 hl hsz
  go_enter Tryz.func122, Tryz.ntmps122
  go_wp2_with (at_builtin; have _t := H0; refine wpList_app_u8s _ rfl (.tmp 3) (.tmp 5) rfl w.heap.size (.slice (some ⟨w.heap.size + 1 + 1, 0, none⟩) 0 0) [] A n c pix rfl rfl H0.out.2.1 H0.out.2.2.1 H0.out.2.2.2.2 (by simp; omega) ?_; intro v1 w1 hown1 hMa hMb hF; have HS1 := Sat.beside hMa H0.out.1.drop_own (fun j hj => by simp [Value.ownBlock] at hj; omega) (fun e he hj => by simp [Value.ownBlock] at hj; simp at he; rcases he with rfl | rfl <;> simp at hj <;> omega); rw [List.nil_append] at hown1; obtain ⟨A1, c1, hv1⟩ := own_shape hown1; rw [H0.out.2.2.2.1] at hv1; subst hv1; obtain ⟨b1, hb1, _⟩ := hown1.some_ (by rw [H0.out.2.2.2.1]; exact h0); subst hb1; have HO := Lib.hid (And.intro hown1 HS1); clear hown1 hMa hMb hF HS1; obtain ⟨pc, pf⟩ := (HO.out.2.own_ 1 rfl).both; obtain ⟨rc, rf⟩ := (HO.out.2.own_ 0 rfl).both; have rl := (HO.out.2.own_ 0 rfl).lt; have pl := (HO.out.2.own_ 1 rfl).lt)
  have n1 := HO.out.1.ne_ (HO.out.2.own_ 0 rfl) (show 35 ≠ 5 by decide)
  have n2 := HO.out.1.ne_ (HO.out.2.own_ 1 rfl) (show 35 ≠ 5 by decide)
  dsimp only at n1 n2
  have HE := (((HO.out.2.put (g := w.heap.size) (i := 2) (u := .slice (some ⟨b1, 0, none⟩) n c1) (.there (.here rfl))).put (g := w.heap.size + 1) (i := 0) (u := .int .i64 W) (.here rfl)).put (g := w.heap.size + 1) (i := 1) (u := .int .i64 H) (.here rfl)).put (g := w.heap.size + 1) (i := 2) (u := .slice (some ⟨b1, 0, none⟩) n c1) (.here rfl)
  have hB := (((HO.out.1.far (p := ⟨w.heap.size, 2, none⟩) n2 (.slice (some ⟨b1, 0, none⟩) n c1)).far (p := ⟨w.heap.size + 1, 0, none⟩) n1 (.int .i64 W)).far (p := ⟨w.heap.size + 1, 1, none⟩) n1 (.int .i64 H)).far (p := ⟨w.heap.size + 1, 2, none⟩) n1 (.slice (some ⟨b1, 0, none⟩) n c1)
  exact bodyPost_ret (v := .agg #[.int .i64 W, .int .i64 H, .slice (some ⟨b1, 0, none⟩) n c1]) (by simp [results, Tryz.results122, go_sem, rc]) rfl ⟨b1, c1, rfl, hB, HE.mod⟩
end Go.Proofs.YteppnjgfebcmjaaGreat

/-
  intra: what is around a block, and the four modes.
-/
namespace Go.Proofs.YteppnjgfebcmjaaGreat
open Go.RowKit

/-- What is around a block of eight, as cells. -/
def arL (ab lf : List UInt8) (co : UInt8) : List Value := .int .i64 8 :: (u8s ab ++ (u8s lf ++ [.int .u8 (co.toNat : Int)]))
def arV (ab lf : List UInt8) (co : UInt8) : Array Value := (arL ab lf co).toArray
section
variable {ab lf : List UInt8} {co : UInt8} {w : World} {p : Nat}
theorem ar_n (hb : Blk w p 223 (arV ab lf co)) : w.cell? ⟨p, 0, none⟩ = some (.int .i64 8) := hb.cell 0
theorem ar_above (hb : Blk w p 223 (arV ab lf co)) (h1 : ab.length = 8) {i : Nat} (hi : i < 8) : w.cell? ⟨p, 1 + i, none⟩ = some (.int .u8 ((ab.getD i 0).toNat : Int)) := by
  rw [hb.cell, arV, List.getElem?_toArray, arL, Nat.add_comm 1 i, List.getElem?_cons_succ, List.getElem?_append_left (by rw [u8s_length]; omega)]
  simp [u8s, h1, hi]
theorem ar_left (hb : Blk w p 223 (arV ab lf co)) (h1 : ab.length = 8) (h2 : lf.length = 8) {i : Nat} (hi : i < 8) : w.cell? ⟨p, 9 + i, none⟩ = some (.int .u8 ((lf.getD i 0).toNat : Int)) := by
  rw [hb.cell, arV, List.getElem?_toArray, arL, show 9 + i = (8 + i) + 1 by omega, List.getElem?_cons_succ, List.getElem?_append_right (by rw [u8s_length]; omega), u8s_length, h1, Nat.add_sub_cancel_left, List.getElem?_append_left (by rw [u8s_length]; omega)]
  simp [u8s, h2, hi]
theorem ar_corner (hb : Blk w p 223 (arV ab lf co)) (h1 : ab.length = 8) (h2 : lf.length = 8) : w.cell? ⟨p, 17, none⟩ = some (.int .u8 (co.toNat : Int)) := by
  rw [hb.cell, arV, List.getElem?_toArray, arL, show 17 = 16 + 1 by omega, List.getElem?_cons_succ, List.getElem?_append_right (by rw [u8s_length]; omega), u8s_length, h1, List.getElem?_append_right (by rw [u8s_length]; omega), u8s_length, h2]
  rfl
theorem ar_set_above {v : Nat} (h1 : ab.length = 8) {i : Nat} (hi : i < 8) (hv : v < 256) : (arV ab lf co).setIfInBounds (1 + i) (.int .u8 (v : Int)) = arV (ab.set i (UInt8.ofNat v)) lf co := by
  have e := u8s_set ab i v hv
  unfold arV arL
  rw [List.setIfInBounds_toArray, Nat.add_comm 1 i, List.set_cons_succ, List.set_append_left _ _ (by rw [u8s_length]; omega), e]
theorem ar_set_left {v : Nat} (h1 : ab.length = 8) (h2 : lf.length = 8) {i : Nat} (hi : i < 8) (hv : v < 256) : (arV ab lf co).setIfInBounds (9 + i) (.int .u8 (v : Int)) = arV ab (lf.set i (UInt8.ofNat v)) co := by
  have e := u8s_set lf i v hv
  unfold arV arL
  rw [List.setIfInBounds_toArray, show 9 + i = (8 + i) + 1 by omega, List.set_cons_succ, List.set_append_right _ _ (by rw [u8s_length]; omega), u8s_length, h1, Nat.add_sub_cancel_left, List.set_append_left _ _ (by rw [u8s_length]; omega), e]
theorem ar_set_corner {v : Nat} (h1 : ab.length = 8) (h2 : lf.length = 8) (hv : v < 256) : (arV ab lf co).setIfInBounds 17 (.int .u8 (v : Int)) = arV ab lf (UInt8.ofNat v) := by
  unfold arV arL
  rw [List.setIfInBounds_toArray, show 17 = 16 + 1 by omega, List.set_cons_succ, List.set_append_right _ _ (by rw [u8s_length]; omega), u8s_length, h1, List.set_append_right _ _ (by rw [u8s_length]; omega), u8s_length, h2]
  simp [UInt8.toNat_ofNat', Nat.mod_eq_of_lt hv]
end

set_option maxRecDepth 100000 in
theorem iDown (w : World) (ab lf : List UInt8) (co : UInt8) (h1 : ab.length = 8) (x : Nat) (y : Int) (hx : x < 8) : Calls Tryz.prog 184 #[.agg (arV ab lf co), .int .i64 (x : Int), .int .i64 y] w fun e w' => e = .returned (.int .u8 ((ab.getD x 0).toNat : Int)) ∧ Mod (fun _ => False) w w' := by
  have hb : Blk (w.alloc (.cells (arV ab lf co) 223)) w.heap.size 223 (arV ab lf co) := Blk.new _ _ _
  have k0 := ar_above hb h1 hx
  generalize (ab.getD x 0).toNat = v at *
  generalize arV ab lf co = cs at *
  clear hb
  go_enter Tryz.func184, Tryz.ntmps184
  go_wp2_with fail
  go_ret
  exact ⟨rfl, (Mod.refl _ _).alloc _⟩
set_option maxRecDepth 100000 in
theorem iAcross (w : World) (ab lf : List UInt8) (co : UInt8) (h1 : ab.length = 8) (h2 : lf.length = 8) (x : Int) (y : Nat) (hy : y < 8) : Calls Tryz.prog 185 #[.agg (arV ab lf co), .int .i64 x, .int .i64 (y : Int)] w fun e w' => e = .returned (.int .u8 ((lf.getD y 0).toNat : Int)) ∧ Mod (fun _ => False) w w' := by
  have hb : Blk (w.alloc (.cells (arV ab lf co) 223)) w.heap.size 223 (arV ab lf co) := Blk.new _ _ _
  have k0 := ar_left hb h1 h2 hy
  generalize (lf.getD y 0).toNat = v at *
  generalize arV ab lf co = cs at *
  clear hb
  go_enter Tryz.func185, Tryz.ntmps185
  go_wp2_with fail
  go_ret
  exact ⟨rfl, (Mod.refl _ _).alloc _⟩

def slopeN (ab lf : List UInt8) (co : UInt8) (x y : Nat) : Nat := clipN (((ab.getD x 0).toNat : Int) + ((lf.getD y 0).toNat : Int) - (co.toNat : Int))
set_option maxRecDepth 100000 in
set_option maxHeartbeats 1000000 in
theorem iSlope (w : World) (ab lf : List UInt8) (co : UInt8) (h1 : ab.length = 8) (h2 : lf.length = 8) (x y : Nat) (hx : x < 8) (hy : y < 8) : Calls Tryz.prog 186 #[.agg (arV ab lf co), .int .i64 (x : Int), .int .i64 (y : Int)] w fun e w' => e = .returned (.int .u8 ((slopeN ab lf co x y : Nat) : Int)) ∧ Mod (fun _ => False) w w' := by
  have hb : Blk (w.alloc (.cells (arV ab lf co) 223)) w.heap.size 223 (arV ab lf co) := Blk.new _ _ _
  have k0 := ar_above hb h1 hx
  have k1 := ar_left hb h1 h2 hy
  have k2 := ar_corner hb h1 h2
  have x0 : (ab.getD x 0).toNat < 256 := UInt8.toNat_lt _
  have x1 : (lf.getD y 0).toNat < 256 := UInt8.toNat_lt _
  have x2 : co.toNat < 256 := UInt8.toNat_lt _
  unfold slopeN
  generalize (ab.getD x 0).toNat = u at *
  generalize (lf.getD y 0).toNat = v at *
  generalize co.toNat = z at *
  have M0 : Mod (fun _ => False) w (w.alloc (.cells (arV ab lf co) 223)) := (Mod.refl _ _).alloc _
  generalize arV ab lf co = cs at *
  clear hb
  have e0 : IntKind.i64.wrap (u : Int) = (u : Int) := IntWalk.i64_in _ ⟨by omega, by omega⟩
  have e1 : IntKind.i64.wrap (v : Int) = (v : Int) := IntWalk.i64_in _ ⟨by omega, by omega⟩
  have e2 : IntKind.i64.wrap (z : Int) = (z : Int) := IntWalk.i64_in _ ⟨by omega, by omega⟩
  have e3 : IntKind.i64.wrap ((u : Int) + (v : Int)) = (u : Int) + (v : Int) := IntWalk.i64_in _ ⟨by omega, by omega⟩
  have e4 : IntKind.i64.wrap ((u : Int) + (v : Int) - (z : Int)) = (u : Int) + (v : Int) - (z : Int) := IntWalk.i64_in _ ⟨by omega, by omega⟩
  have p0 : (0 : Int) ≤ (x : Int) := by omega
  have p1 : (x : Int) < 8 := by omega
  have p2 : (0 : Int) ≤ (y : Int) := by omega
  have p3 : (y : Int) < 8 := by omega
  have q0 : -9223372036854775808 ≤ (u : Int) + (v : Int) - (z : Int) ∧ (u : Int) + (v : Int) - (z : Int) ≤ 9223372036854775807 := ⟨by omega, by omega⟩
  have HQ := Lib.hid (And.intro q0 (And.intro M0 (And.intro e0 (And.intro e1 (And.intro e2 (And.intro e3 e4))))))
  clear q0 M0 e0 e1 e2 e3 e4
  go_enter Tryz.func186, Tryz.ntmps186
  go_wp2_with fail
  obtain ⟨_, _, e0, e1, e2, e3, e4⟩ := HQ.out
  go_quiet ((go_at_call 88; exact Calls.quiet_of_same ((clip_any _ _ HQ.out.1).mono fun _ _ ⟨a, b⟩ => ⟨a, b.symm⟩)))
  clear e0 e1 e2 e3 e4
  go_wp2_with fail
  go_ret
  exact ⟨rfl, HQ.out.2.1.drewN _⟩

def flS (ab lf : List UInt8) : Nat → Nat
  | 0 => 8
  | k + 1 => flS ab lf k + ((ab.getD k 0).toNat + (lf.getD k 0).toNat)
theorem flS_le (ab lf : List UInt8) : ∀ k, flS ab lf k ≤ 8 + 510 * k
  | 0 => Nat.le_refl _
  | k + 1 => by
    have := flS_le ab lf k
    have h1 : (ab.getD k 0).toNat < 256 := UInt8.toNat_lt _
    have h2 : (lf.getD k 0).toNat < 256 := UInt8.toNat_lt _
    unfold flS
    omega
def flatN (ab lf : List UInt8) : Nat := flS ab lf 8 / 16
def FlatRel (w : World) (p : Nat) (cs : Array Value) (ab lf : List UInt8) (s7 s13 : Value) (wr : World) : Prop :=
  ∃ k : Nat, k ≤ 8 ∧ s13 = .int .i64 (k : Int) ∧ s7 = .int .i64 ((flS ab lf k : Nat) : Int) ∧ Sat (fun _ => False) w wr [⟨p, 223, cs⟩] []
set_option maxRecDepth 100000 in
set_option maxHeartbeats 1000000 in
theorem iFlat (w : World) (ab lf : List UInt8) (co : UInt8) (h1 : ab.length = 8) (h2 : lf.length = 8) (x y : Int) : Calls Tryz.prog 183 #[.agg (arV ab lf co), .int .i64 x, .int .i64 y] w fun e w' => e = .returned (.int .u8 ((flatN ab lf : Nat) : Int)) ∧ Mod (fun _ => False) w w' := by
  have HS := (Sat.nil (fun _ => False) w).alloc 223 (arV ab lf co) rfl
  have k0 := ar_n (HS.own_ 0 rfl)
  have H0 := Lib.hid HS
  clear HS
  obtain ⟨cs, hcs⟩ : ∃ cs, cs = arV ab lf co := ⟨_, rfl⟩
  rw [← hcs] at k0 H0 ⊢
  have HC := Lib.hid hcs
  clear hcs
  go_enter Tryz.func183, Tryz.ntmps183
  go_wp2_with fail
  clear k0
  go_loopw [7, 13] (FlatRel w w.heap.size cs ab lf) (fun _ s _ => 8 - (intOf s).toNat)
  case atStart => exact ⟨0, by omega, rfl, rfl, H0.out⟩
  case round =>
    clear H0
    obtain ⟨k, hk, rfl, rfl, HS⟩ := hrel
    have hfl := flS_le ab lf k
    by_cases hlt : k < 8
    · have hb := HS.own_ 0 rfl
      dsimp only at hb
      rw [HC.out] at hb
      have c0 := ar_above hb h1 hlt
      have c1 := ar_left hb h1 h2 hlt
      have x0 : (ab.getD k 0).toNat < 256 := UInt8.toNat_lt _
      have x1 : (lf.getD k 0).toNat < 256 := UInt8.toNat_lt _
      have hst : flS ab lf (k + 1) = flS ab lf k + ((ab.getD k 0).toNat + (lf.getD k 0).toNat) := rfl
      generalize (ab.getD k 0).toNat = u at *
      generalize (lf.getD k 0).toNat = v at *
      obtain ⟨z, hz⟩ : ∃ z, z = flS ab lf k := ⟨_, rfl⟩
      rw [← hz] at hfl hst ⊢
      have e0 : IntKind.i64.wrap (u : Int) = (u : Int) := IntWalk.i64_in _ ⟨by omega, by omega⟩
      have e1 : IntKind.i64.wrap (v : Int) = (v : Int) := IntWalk.i64_in _ ⟨by omega, by omega⟩
      have e3 : IntKind.i64.wrap ((u : Int) + (v : Int)) = (u : Int) + (v : Int) := IntWalk.i64_in _ ⟨by omega, by omega⟩
      have e4 : IntKind.i64.wrap ((z : Int) + ((u : Int) + (v : Int))) = (z : Int) + ((u : Int) + (v : Int)) := IntWalk.i64_in _ ⟨by omega, by omega⟩
      have p0 : (0 : Int) ≤ (k : Int) := by omega
      have p1 : (k : Int) < 8 := by omega
      have HK := Lib.hid (And.intro HS (And.intro hst (And.intro e0 (And.intro e1 (And.intro e3 e4)))))
      clear HS hst hb e0 e1 e3 e4 hz
      go_upto_region 5 with (fail)
      obtain ⟨_, _, e0, e1, e3, e4⟩ := HK.out
      go_quiet (fail)
      clear e0 e1 e3 e4
      go_wp2_with fail
      go_roundw
      case rel => exact ⟨k + 1, by omega, by go_num, by rw [HK.out.2.1]; go_num, HK.out.1.drewN _⟩
      case measure => simp [intOf]; omega
    · obtain rfl : k = 8 := by omega
      have k0 : wr.cell? ⟨w.heap.size, 0, none⟩ = some (.int .i64 8) := by
        have hb := HS.own_ 0 rfl
        dsimp only at hb
        rw [HC.out] at hb
        exact ar_n hb
      have HK := Lib.hid HS
      clear HS
      obtain ⟨z, hz⟩ : ∃ z, z = flS ab lf 8 := ⟨_, rfl⟩
      rw [← hz] at hfl ⊢
      have HZ := Lib.hid hz
      clear hz
      go_wp2_with fail
      go_ret
      refine ⟨congrArg (fun z => Ending.returned (.int .u8 z)) ?_, HK.out.mod⟩
      unfold flatN
      rw [← HZ.out]
      omega
end Go.Proofs.YteppnjgfebcmjaaGreat
