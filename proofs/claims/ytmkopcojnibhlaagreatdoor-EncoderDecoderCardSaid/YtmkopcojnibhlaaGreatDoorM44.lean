/-
  kinoralaw14's live question, walked.
-/
import Derived.Test.YtmkopcojnibhlaaGreatDoorM43
import Derived.Test.YtmkopcojnibhlaaGreatDoorM1
import Derived.Test.YtmkopcojnibhlaaGreatDoorM23
import Derived.ProofKit
import Derived.OpenShut
import Derived.Lib.SmallJoins
namespace Go.Proofs.YtmkopcojnibhlaaGreatDoor
open Go.RowKit

theorem new16 (w : World) : Calls Tryz.prog 14 #[.agg #[.int .i64 16, .int .i64 16, .int .i64 2], .int .i64 9, .int .i64 0] w fun e w' => ∃ g, e = .returned (.tuple #[.pointer (some ⟨g, 0, none⟩), .int .i64 0]) ∧ EncAt w' g d16 2 9 0 0 grey ∧ w.heap.size ≤ g ∧ Mod (fun _ => False) w w' := by
  refine (encNew w 16 16 2 9 0).mono ?_
  rintro e w' ⟨hm, ⟨h, _⟩ | ⟨_, h, _⟩ | ⟨g, hs, ha, rfl, hb, hg⟩⟩
  · exact absurd h (by decide)
  · exact absurd h (by decide)
  · exact ⟨g, rfl, ⟨zeroFr, hb, .inl ⟨rfl, rfl⟩⟩, hg, hm⟩
theorem blank16 (w : World) : Calls Tryz.prog 41 #[.int .i64 16, .int .i64 16, .int .u8 128] w fun e w' => ∃ gy gu gv, e = .returned (.tuple #[.agg #[.int .i64 16, .int .i64 16, .slice (some ⟨gy, 0, none⟩) 256 256, .int .i64 8, .int .i64 8, .slice (some ⟨gu, 0, none⟩) 64 64, .int .i64 8, .int .i64 8, .slice (some ⟨gv, 0, none⟩) 64 64], .int .i64 0]) ∧ FrameAt w' d16 gy gu gv grey ∧ (w.heap.size ≤ gy ∧ w.heap.size ≤ gu ∧ w.heap.size ≤ gv) ∧ Mod (fun _ => False) w w' := by
  refine (pBlank w d16 d16_ok 128).mono ?_
  rintro e w' ⟨p, rfl, ⟨gy, gu, gv, rfl, hf, h1, h2, h3⟩, hm⟩
  exact ⟨gy, gu, gv, rfl, hf, ⟨h1, h2, h3⟩, hm⟩
def GreyPost (w : World) (g nu' n : Nat) (b : List UInt8) (e : Ending) (w' : World) : Prop :=
  ∃ A c p0 p1 p2, e = .returned (.tuple #[.slice A n c, .agg #[.int .i64 16, .int .i64 16, .slice (some ⟨p0, 0, none⟩) 256 256, .int .i64 8, .int .i64 8, .slice (some ⟨p1, 0, none⟩) 64 64, .int .i64 8, .int .i64 8, .slice (some ⟨p2, 0, none⟩) 64 64], .int .i64 0]) ∧ Bytes w' w.heap.size (.slice A n c) b ∧ FrameAt w' d16 p0 p1 p2 grey ∧ EncAt w' g d16 2 9 0 nu' grey ∧ Mod (· = g) w w'
theorem grey_in {w : World} {gy gu gv : Nat} (hf : FrameAt w d16 gy gu gv grey) : (FrX.mk 16 16 (some ⟨gy, 0, none⟩) 256 256 8 8 (some ⟨gu, 0, none⟩) 64 64 8 8 (some ⟨gv, 0, none⟩) 64 64 grey.Y grey.U grey.V).In w :=
  ⟨blkIn hf.by_ hf.ly d16_ok.nyle, blkIn hf.bu hf.lu d16_ok.ncle, blkIn hf.bv hf.lv d16_ok.ncle, Nat.le_refl _, Nat.le_refl _, Nat.le_refl _, (by decide : 256 ≤ 9223372036854775807), (by decide : 64 ≤ 9223372036854775807), (by decide : 64 ≤ 9223372036854775807)⟩
theorem encGrey (w : World) (g nu nu' n : Nat) (b : List UInt8) (hnu : nu < 2) (hnn : newN nu 2 = nu') (hfr : eframe d16 grey grey nu 9 = (b, grey)) (hn : b.length = n) (h : EncAt w g d16 2 9 0 nu grey) (he : EnvP w) (gy gu gv : Nat) (hf : FrameAt w d16 gy gu gv grey) :
    Calls Tryz.prog 16 #[.pointer (some ⟨g, 0, none⟩), .agg #[.int .i64 16, .int .i64 16, .slice (some ⟨gy, 0, none⟩) 256 256, .int .i64 8, .int .i64 8, .slice (some ⟨gu, 0, none⟩) 64 64, .int .i64 8, .int .i64 8, .slice (some ⟨gv, 0, none⟩) 64 64]] w (GreyPost w g nu' n b) := by
  refine (encFrameAt h he d16_ok (by decide) (by decide) (by decide) (by decide) (by decide) hnu (FrX.mk 16 16 (some ⟨gy, 0, none⟩) 256 256 8 8 (some ⟨gu, 0, none⟩) 64 64 8 8 (some ⟨gv, 0, none⟩) 64 64 grey.Y grey.U grey.V) (grey_in hf)).mono ?_
  rintro e w' (⟨hb, _⟩ | ⟨_, v, p, rfl, hB, ⟨p0, p1, p2, rfl, hfp, _⟩, hE, hm⟩)
  · exact absurd (show true = false from hb) (by decide)
  · have hp : FrX.pix (FrX.mk 16 16 (some ⟨gy, 0, none⟩) 256 256 8 8 (some ⟨gu, 0, none⟩) 64 64 8 8 (some ⟨gv, 0, none⟩) 64 64 grey.Y grey.U grey.V) = grey := rfl
    rw [hp, hfr] at hB hfp hE
    rw [hnn] at hE
    dsimp only at hB hfp hE
    obtain ⟨A, c, rfl⟩ := own_shape hB
    rw [hn] at hB ⊢
    exact ⟨A, c, p0, p1, p2, rfl, hB, hfp, hE, hm⟩
theorem same16 (w : World) (p0 p1 p2 gy gu gv : Nat) (ha : FrameAt w d16 p0 p1 p2 grey) (hb : FrameAt w d16 gy gu gv grey) : Calls Tryz.prog 38 #[.agg #[.int .i64 16, .int .i64 16, .slice (some ⟨p0, 0, none⟩) 256 256, .int .i64 8, .int .i64 8, .slice (some ⟨p1, 0, none⟩) 64 64, .int .i64 8, .int .i64 8, .slice (some ⟨p2, 0, none⟩) 64 64], .agg #[.int .i64 16, .int .i64 16, .slice (some ⟨gy, 0, none⟩) 256 256, .int .i64 8, .int .i64 8, .slice (some ⟨gu, 0, none⟩) 64 64, .int .i64 8, .int .i64 8, .slice (some ⟨gv, 0, none⟩) 64 64]] w fun e w' => e = .returned (.bool true) ∧ Mod (fun _ => False) w w' :=
  pSame w 16 16 8 8 8 8 _ _ _ _ _ _ 256 256 256 256 64 64 64 64 64 64 64 64 ⟨grey.Y, blkIn ha.by_ ha.ly d16_ok.nyle, blkIn hb.by_ hb.ly d16_ok.nyle⟩ ⟨grey.U, blkIn ha.bu ha.lu d16_ok.ncle, blkIn hb.bu hb.lu d16_ok.ncle⟩ ⟨grey.V, blkIn ha.bv ha.lv d16_ok.ncle, blkIn hb.bv hb.lv d16_ok.ncle⟩
theorem EncAt.apart {w : World} {g : Nat} {d : Dim} {G q tg nu : Nat} {ahd : Pix} (h : EncAt w g d G q tg nu ahd) {j : Nat} {t : TypeId} {cs : Array Value} (hb : Blk w j t cs) (ht : t ≠ 92) : j ≠ g := by
  obtain ⟨al, hb2, _⟩ := h
  exact hb.ne_ hb2 ht
theorem EncAt.fr {w w' : World} {g : Nat} {d d' : Dim} {G q tg nu : Nat} {ahd f : Pix} {gy gu gv : Nat} (h : EncAt w g d G q tg nu ahd) (hf : FrameAt w d' gy gu gv f) (hm : Mod (· = g) w w') : FrameAt w' d' gy gu gv f :=
  hf.mod hm (h.apart hf.by_ (by decide)) (h.apart hf.bu (by decide)) (h.apart hf.bv (by decide))

set_option maxRecDepth 100000 in
set_option maxHeartbeats 4000000 in
theorem alive14 (w : World) (he : EnvP w) : Calls Tryz.prog 13 #[] w fun e w' => e = .returned (.bool true) ∧ Mod (fun _ => False) w w' := by
  have HE0 := Lib.hid he
  clear he
  go_enter Tryz.func13, Tryz.ntmps13
  go_wp2_with fail
  refine (new16 _).mono ?_
  rintro e w1 ⟨g, rfl, hE, lg, hm1⟩
  have hM1 := ((Mod.refl (fun _ => False) w).alloc (.cells #[.int .i64 16, .int .i64 16, .int .i64 2] 23)).trans hm1
  have lg' : w.heap.size ≤ g := by have z : (w.alloc (.cells #[.int .i64 16, .int .i64 16, .int .i64 2] 23)).heap.size = w.heap.size + 1 := by simp
                                   omega
  have H1 := Lib.hid (And.intro hM1 (And.intro hE lg'))
  clear hM1 hE lg lg' hm1
  go_wp2_with fail
  refine (blank16 _).mono ?_
  rintro e w2 ⟨gy, gu, gv, rfl, hfa, hl, hm2⟩
  have H2 := Lib.hid (And.intro (H1.out.1.trans hm2) (And.intro (H1.out.2.1.quiet hm2) hfa))
  clear hfa hl hm2
  go_upto_region 6 with (fail)
  have hb := Blk.new w2 40 #[.int .i64 16, .int .i64 16, .slice (some ⟨gy, 0, none⟩) 256 256, .int .i64 8, .int .i64 8, .slice (some ⟨gu, 0, none⟩) 64 64, .int .i64 8, .int .i64 8, .slice (some ⟨gv, 0, none⟩) 64 64]
  have hma : Mod (fun _ => False) w2 (w2.alloc (.cells #[.int .i64 16, .int .i64 16, .slice (some ⟨gy, 0, none⟩) 256 256, .int .i64 8, .int .i64 8, .slice (some ⟨gu, 0, none⟩) 64 64, .int .i64 8, .int .i64 8, .slice (some ⟨gv, 0, none⟩) 64 64] 40)) := (Mod.refl _ w2).alloc _
  obtain ⟨fb, hfb⟩ : ∃ fb, fb = w2.heap.size := ⟨_, rfl⟩
  rw [← hfb] at hb ⊢
  generalize w2.alloc (.cells #[.int .i64 16, .int .i64 16, .slice (some ⟨gy, 0, none⟩) 256 256, .int .i64 8, .int .i64 8, .slice (some ⟨gu, 0, none⟩) 64 64, .int .i64 8, .int .i64 8, .slice (some ⟨gv, 0, none⟩) 64 64] 40) = w3 at hb hma ⊢
  obtain ⟨fc, ff⟩ := hb.both
  have fl := hb.lt
  have H3 := Lib.hid (And.intro (H2.out.1.trans hma) (And.intro (H2.out.2.1.quiet hma) (And.intro (H2.out.2.2.quiet hma) hb)))
  clear hb hma hfb H2
  go_wp2_with fail
  refine (encGrey _ g 0 1 7 [210, 0, 0, 0, 0, 0, 0] (by decide) rfl fr_key rfl H3.out.2.1 (HE0.out.quiet H3.out.1) gy gu gv H3.out.2.2.1).mono ?_
  rintro e w4 ⟨A, c, p0, p1, p2, rfl, hin, hfp, hE4, hm4⟩
  have hb4 := H3.out.2.2.2.keep hm4 (H3.out.2.1.apart H3.out.2.2.2 (by decide))
  have H4 := Lib.hid (And.intro (H3.out.1.into hm4 (fun i e => .inr (by have := H1.out.2.2; omega))) (And.intro hE4 (And.intro (H3.out.2.1.fr H3.out.2.2.1 hm4) (And.intro hb4 (And.intro hfp (And.intro hin H3.out.2.1.lt))))))
  clear hm4 hE4 hb4 hfp hin fc ff fl H3
  go_upto_region 7 with (fail)
  have hb := Blk.new w4 40 #[.int .i64 16, .int .i64 16, .slice (some ⟨p0, 0, none⟩) 256 256, .int .i64 8, .int .i64 8, .slice (some ⟨p1, 0, none⟩) 64 64, .int .i64 8, .int .i64 8, .slice (some ⟨p2, 0, none⟩) 64 64]
  have hma : Mod (fun _ => False) w4 (w4.alloc (.cells #[.int .i64 16, .int .i64 16, .slice (some ⟨p0, 0, none⟩) 256 256, .int .i64 8, .int .i64 8, .slice (some ⟨p1, 0, none⟩) 64 64, .int .i64 8, .int .i64 8, .slice (some ⟨p2, 0, none⟩) 64 64] 40)) := (Mod.refl _ w4).alloc _
  obtain ⟨pb, hpb⟩ : ∃ pb, pb = w4.heap.size := ⟨_, rfl⟩
  rw [← hpb] at hb ⊢
  generalize w4.alloc (.cells #[.int .i64 16, .int .i64 16, .slice (some ⟨p0, 0, none⟩) 256 256, .int .i64 8, .int .i64 8, .slice (some ⟨p1, 0, none⟩) 64 64, .int .i64 8, .int .i64 8, .slice (some ⟨p2, 0, none⟩) 64 64] 40) = w5 at hb hma ⊢
  have hb5 := H4.out.2.2.2.1.keep hma (fun h => h)
  obtain ⟨fc, ff⟩ := hb5.both
  have fl := hb5.lt
  have H5 := Lib.hid (And.intro (H4.out.1.trans hma) (And.intro (H4.out.2.1.quiet hma) (And.intro (H4.out.2.2.1.quiet hma) (And.intro hb5 (And.intro (H4.out.2.2.2.2.1.quiet hma) (And.intro (H4.out.2.2.2.2.2.1.quiet hma) (And.intro hb H4.out.2.2.2.2.2.2)))))))
  clear hb hma hpb hb5 H4
  go_wp2_with fail
  refine (encGrey _ g 1 0 6 [36, 128, 0, 0, 0, 0] (by decide) rfl fr_next rfl H5.out.2.1 (HE0.out.quiet H5.out.1) gy gu gv H5.out.2.2.1).mono ?_
  rintro e w6 ⟨B, k, r0, r1, r2, rfl, hin6, hfr, hE6, hm6⟩
  have hb6 := H5.out.2.2.2.1.keep hm6 (H5.out.2.1.apart H5.out.2.2.2.1 (by decide))
  have hp6 := H5.out.2.2.2.2.2.2.1.keep hm6 (H5.out.2.1.apart H5.out.2.2.2.2.2.2.1 (by decide))
  have H6 := Lib.hid (And.intro (H5.out.1.into hm6 (fun i e => .inr (by have := H1.out.2.2; omega))) (And.intro hE6 (And.intro (H5.out.2.1.fr H5.out.2.2.1 hm6) (And.intro hb6 (And.intro (H5.out.2.1.fr H5.out.2.2.2.2.1 hm6) (And.intro hp6 hfr))))))
  have hB6 := H5.out.2.2.2.2.2.1.mod hm6 (fun j hj e => by have z1 := (H5.out.2.2.2.2.2.1.lt j hj).1; have z2 := H5.out.2.2.2.2.2.2.2; omega)
  have hin := hB6.in_
  clear hm6 hb6 hp6 fc ff fl hB6 hE6 hfr hin6 H5
  go_upto_region 8 with (fail)
  have hb := Blk.new w6 40 #[.int .i64 16, .int .i64 16, .slice (some ⟨r0, 0, none⟩) 256 256, .int .i64 8, .int .i64 8, .slice (some ⟨r1, 0, none⟩) 64 64, .int .i64 8, .int .i64 8, .slice (some ⟨r2, 0, none⟩) 64 64]
  have hma : Mod (fun _ => False) w6 (w6.alloc (.cells #[.int .i64 16, .int .i64 16, .slice (some ⟨r0, 0, none⟩) 256 256, .int .i64 8, .int .i64 8, .slice (some ⟨r1, 0, none⟩) 64 64, .int .i64 8, .int .i64 8, .slice (some ⟨r2, 0, none⟩) 64 64] 40)) := (Mod.refl _ w6).alloc _
  obtain ⟨rb, hrb⟩ : ∃ rb, rb = w6.heap.size := ⟨_, rfl⟩
  rw [← hrb] at hb ⊢
  generalize w6.alloc (.cells #[.int .i64 16, .int .i64 16, .slice (some ⟨r0, 0, none⟩) 256 256, .int .i64 8, .int .i64 8, .slice (some ⟨r1, 0, none⟩) 64 64, .int .i64 8, .int .i64 8, .slice (some ⟨r2, 0, none⟩) 64 64] 40) = w7 at hb hma ⊢
  have hb7 := H6.out.2.2.2.1.keep hma (fun h => h)
  have hp7 := H6.out.2.2.2.2.2.1.keep hma (fun h => h)
  obtain ⟨fc, ff⟩ := hb7.both
  obtain ⟨pc, pf⟩ := hp7.both
  have fl := hb7.lt
  have pl := hp7.lt
  obtain ⟨ba, off, hA, hlt, hcell⟩ := (hin.quiet hma).place (by decide)
  subst hA
  have c0 : w7.cell? ⟨ba, off, none⟩ = some (.int .u8 210) := hcell 0 (by decide)
  have H7 := Lib.hid (And.intro (H6.out.1.trans hma) (And.intro (H6.out.2.1.quiet hma) (And.intro (H6.out.2.2.1.quiet hma) (And.intro hb7 (And.intro (H6.out.2.2.2.2.1.quiet hma) (And.intro (H6.out.2.2.2.2.2.2.quiet hma) hb))))))
  clear hb hma hrb hb7 hp7 hcell hin H6
  go_wp2_with fail
  refine (same16 _ p0 p1 p2 gy gu gv H7.out.2.2.2.2.1 H7.out.2.2.1).mono ?_
  rintro e w8 ⟨rfl, hm8⟩
  have hb8 := H7.out.2.2.2.1.keep hm8 (fun h => h)
  have hr8 := H7.out.2.2.2.2.2.2.keep hm8 (fun h => h)
  clear fc ff fl pc pf pl c0 hlt
  obtain ⟨fc, ff⟩ := hb8.both
  obtain ⟨qc, qf⟩ := hr8.both
  have fl := hb8.lt
  have ql := hr8.lt
  have H8 := Lib.hid (And.intro (H7.out.1.trans hm8) (And.intro (H7.out.2.1.quiet hm8) (And.intro (H7.out.2.2.1.quiet hm8) (H7.out.2.2.2.2.2.1.quiet hm8))))
  clear hb8 hr8 hm8 H7
  go_wp2_with fail
  refine (same16 _ r0 r1 r2 gy gu gv H8.out.2.2.2 H8.out.2.2.1).mono ?_
  rintro e w9 ⟨rfl, hm9⟩
  have H9 := Lib.hid (And.intro (H8.out.1.trans hm9) (H8.out.2.1.quiet hm9))
  clear hm9 fc ff fl qc qf ql H8
  go_wp2_with fail
  refine H9.out.2.number.mono ?_
  rintro e w10 ⟨rfl, rfl⟩
  go_wp2_with fail
  refine H9.out.2.q.mono ?_
  rintro e w11 ⟨rfl, rfl⟩
  go_wp2_with fail
  go_ret
  exact ⟨rfl, H9.out.1⟩
end Go.Proofs.YtmkopcojnibhlaaGreatDoor

/-
  kinoralaw14.EncoderNil, walked.
-/
namespace Go.Proofs.YtmkopcojnibhlaaGreatDoor
open Go.RowKit

set_option maxRecDepth 100000 in
set_option maxHeartbeats 4000000 in
theorem encoderNil_walk (w : World) (he : EnvP w) (f : FrX) (hf : f.In w) : Calls Tryz.prog 5 #[.agg f.cells.toArray] w fun e w' => e = .returned (.bool true) ∧ Mod (fun _ => False) w w' := by
  have hF := fun w' (hm : Mod (fun _ => False) w w') => lawFitsFrame w' f (hf.quiet hm)
  obtain ⟨t, ht⟩ : ∃ t, t = f.fitsB := ⟨_, rfl⟩
  rw [← ht] at hF
  obtain ⟨X0, Y0, A0, n0, c0, X1, Y1, A1, n1, c1, X2, Y2, A2, n2, c2, q0, q1, q2⟩ := f
  unfold FrX.cells at hF ⊢
  dsimp only at hF ⊢
  have hs := (Sat.nil (fun _ => False) w).alloc 40 #[.int .i64 X0, .int .i64 Y0, .slice A0 n0 c0, .int .i64 X1, .int .i64 Y1, .slice A1 n1 c1, .int .i64 X2, .int .i64 Y2, .slice A2 n2 c2] rfl
  have HF := Lib.hid (And.intro hF (And.intro hs he))
  clear hF hs he ht hf
  go_enter Tryz.func5, Tryz.ntmps5
  go_wp2_with fail
  refine (HF.out.1 _ HF.out.2.1.mod).mono ?_
  rintro e w1 ⟨rfl, hm1⟩
  have hs1 := Sat.after hm1 HF.out.2.1
  have hq := hs1.own_ 0 rfl
  dsimp only at hq
  obtain ⟨fc, ff⟩ := hq.both
  have fl := hq.lt
  have H1 := Lib.hid hs1
  clear hs1 hm1 hq
  cases t
  · go_wp2_with fail
    refine (alive14 _ (HF.out.2.2.quiet H1.out.mod)).mono ?_
    rintro e w2 ⟨rfl, hm2⟩
    have H2 := Lib.hid (H1.out.mod.trans hm2)
    clear hm2
    go_wp2_with fail
    go_ret
    exact ⟨rfl, H2.out⟩
  · go_wp2_with fail
    refine (encFrame_nil _ X0 Y0 X1 Y1 X2 Y2 A0 A1 A2 n0 c0 n1 c1 n2 c2).mono ?_
    rintro e w2 ⟨rfl, hm2⟩
    have H2 := Lib.hid (H1.out.mod.trans hm2)
    clear hm2 fc ff fl
    unfold NoFr noFrame
    go_upto_region 6 with (fail)
    have hb := Blk.new w2 40 #[.int .i64 0, .int .i64 0, .slice none 0 0, .int .i64 0, .int .i64 0, .slice none 0 0, .int .i64 0, .int .i64 0, .slice none 0 0]
    have hma : Mod (fun _ => False) w2 (w2.alloc (.cells #[.int .i64 0, .int .i64 0, .slice none 0 0, .int .i64 0, .int .i64 0, .slice none 0 0, .int .i64 0, .int .i64 0, .slice none 0 0] 40)) := (Mod.refl _ w2).alloc _
    obtain ⟨zb, hzb⟩ : ∃ zb, zb = w2.heap.size := ⟨_, rfl⟩
    rw [← hzb] at hb ⊢
    generalize w2.alloc (.cells #[.int .i64 0, .int .i64 0, .slice none 0 0, .int .i64 0, .int .i64 0, .slice none 0 0, .int .i64 0, .int .i64 0, .slice none 0 0] 40) = w3 at hb hma ⊢
    have H3 := Lib.hid (And.intro (H2.out.trans hma) hb)
    clear hb hma hzb
    go_wp2_with fail
    refine (encEnd_nil _).mono ?_
    rintro e w4 ⟨rfl, rfl⟩
    go_wp2_with fail
    refine (alive14 _ (HF.out.2.2.quiet H3.out.1)).mono ?_
    rintro e w5 ⟨rfl, hm5⟩
    have hb5 := H3.out.2.keep hm5 (fun h => h)
    obtain ⟨fc, ff⟩ := hb5.both
    have fl := hb5.lt
    have H5 := Lib.hid (H3.out.1.trans hm5)
    clear hm5 hb5
    go_wp2_with fail
    refine (encQ_nil _).mono ?_
    rintro e w6 ⟨rfl, rfl⟩
    go_wp2_with fail
    refine (encNumber_nil _).mono ?_
    rintro e w7 ⟨rfl, rfl⟩
    go_wp2_with fail
    go_ret
    exact ⟨rfl, H5.out⟩
end Go.Proofs.YtmkopcojnibhlaaGreatDoor

/-
  Arguments opened: bytes, ints.
-/
namespace Go.Proofs.YtmkopcojnibhlaaGreatDoor
open Go.RowKit Go.ChangeShapes Go.WideShapes Go.ChangeAt Go.Joins

section
variable {H : Type} {enc : TypeId × Value → H} {w : World} {base : Nat} {held : Bool}

theorem u8_back (zs : List Int) (h : ∀ n ∈ zs, (Lit.int .u8 n).wf = true) : u8s (zs.map fun n => UInt8.ofNat n.toNat) = zs.map (Value.int .u8) := by
  unfold u8s
  rw [List.map_map]
  refine List.map_congr_left fun n hn => ?_
  have hb := bounds_u8 (h n hn)
  have e : ((UInt8.ofNat n.toNat).toNat : Int) = n := by
    rw [UInt8.toNat_ofNat', Nat.mod_eq_of_lt (by omega)]
    omega
  simp only [Function.comp, e]

/-- A []byte cell that came in. -/
theorem bytes_form {fuel : Nat} {v : Value} {x : DataW H × List MemPlace} (h : DataW.trod enc Tryz.prog w base (fun _ => true) held fuel 36 [v] = some x) :
    ∃ (A : Option Addr) (n c : Nat) (l : List UInt8), v = .slice A n c ∧ n ≤ maxLen ∧ BytesIn w A n c l := by
  rcases open_ints Tryz.underlying36 Tryz.underlying5 (by kernel_rfl) h with ⟨hcs, _⟩ | ⟨a, n, c, zs, hcs, _, hl, hm, hz, _, hcell, hwz⟩
  · injection hcs with hcs
    exact ⟨none, 0, 0, [], hcs, by decide, rfl, fun _ => rfl, Src.nil, fun h0 => absurd h0 (by omega)⟩
  · injection hcs with hcs
    have hz' : zs.length = c := by simpa using hz
    have hb := u8_back (zs.take n) (fun m hm => hwz m (List.mem_of_mem_take hm))
    refine ⟨some a, n, c, (zs.take n).map fun m => UInt8.ofNat m.toNat, hcs, by omega, ?_, (fun h => by cases h), ?_, fun h0 ad e => ?_⟩
    · simp; omega
    · rw [hb]
      refine ⟨by simp; omega, (fun h => by cases h), fun ad e j u hu => ?_⟩
      injection e with e
      subst e
      have hj : j < n := by
        have := (List.getElem?_eq_some_iff.1 hu).1
        simp at this
        omega
      have := hcell j (by omega)
      rw [this, ← hu]
      simp [List.getD_eq_getElem?_getD, hj, show j < zs.length by omega]
    · injection e with e
      subst e
      have := World.block_lt_of_cell? w _ (hcell 0 (by omega))
      rwa [addr_block] at this

theorem bytes_cap {fuel : Nat} {A : Option Addr} {n c : Nat} {x : DataW H × List MemPlace} (h : DataW.trod enc Tryz.prog w base (fun _ => true) held fuel 36 [.slice A n c] = some x) : n ≤ c := by
  rcases open_ints Tryz.underlying36 Tryz.underlying5 (by kernel_rfl) h with ⟨hcs, _⟩ | ⟨a, n', c', zs, hcs, _, hl, _⟩
  · injection hcs with hcs
    injection hcs with _ e2 e3
    omega
  · injection hcs with hcs
    injection hcs with _ e2 e3
    omega
/-- A []int cell that came in. -/
theorem ints_form {fuel : Nat} {v : Value} {x : DataW H × List MemPlace} (h : DataW.trod enc Tryz.prog w base (fun _ => true) held fuel 171 [v] = some x) :
    ∃ (A : Option Addr) (n c : Nat) (l : List Int), v = .slice A n c ∧ n ≤ maxLen ∧ IntsIn w A n c l ∧ (∀ x ∈ l, -9223372036854775808 ≤ x ∧ x ≤ 9223372036854775807) := by
  rcases open_ints Tryz.underlying171 Tryz.underlying3 (by kernel_rfl) h with ⟨hcs, _⟩ | ⟨a, n, c, zs, hcs, _, hl, hm, hz, _, hcell, hwz⟩
  · injection hcs with hcs
    exact ⟨none, 0, 0, [], hcs, by decide, ⟨rfl, fun _ => rfl, Src.nil, fun h0 => absurd h0 (by omega)⟩, fun _ h => by cases h⟩
  · injection hcs with hcs
    have hz' : zs.length = c := by simpa using hz
    refine ⟨some a, n, c, zs.take n, hcs, by omega, ⟨?_, (fun h => by cases h), ?_, fun h0 ad e => ?_⟩, fun x hx => bounds_i64 (hwz x (List.mem_of_mem_take hx))⟩
    · simp; omega
    · refine ⟨by simp [i64s]; omega, (fun h => by cases h), fun ad e j u hu => ?_⟩
      injection e with e
      subst e
      have hj : j < n := by
        have := (List.getElem?_eq_some_iff.1 hu).1
        simp [i64s] at this
        omega
      have := hcell j (by omega)
      rw [this, ← hu]
      simp [i64s, List.getD_eq_getElem?_getD, hj, show j < zs.length by omega]
    · injection e with e
      subst e
      have := World.block_lt_of_cell? w _ (hcell 0 (by omega))
      rwa [addr_block] at this
end
end Go.Proofs.YtmkopcojnibhlaaGreatDoor
