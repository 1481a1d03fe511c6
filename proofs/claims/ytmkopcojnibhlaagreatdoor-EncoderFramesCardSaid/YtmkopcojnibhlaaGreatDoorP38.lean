/-
  The reference's encoder: Frame of a frame of its sequence.
-/
import Derived.Test.YtmkopcojnibhlaaGreatDoorP37
import Derived.Test.YtmkopcojnibhlaaGreatDoorP18
import Derived.Test.YtmkopcojnibhlaaGreatDoorP20
namespace Go.Proofs.YtmkopcojnibhlaaGreatDoor
open Go.RowKit
set_option maxRecDepth 100000
set_option maxHeartbeats 8000000
theorem reFrame (w:World) (g G q tg nu:Nat) (hG:1 ≤ G ∧ G ≤ 64) (hq:q ≤ 31) (ht:tg ≤ 1048576) (hnu:nu < G) (d:Dim) (hd:d.Ok) (hW:d.W ≤ 64) (hH:d.H ≤ 64) (hsr:seqRight (d.W:Int) (d.H:Int) (G:Int) = true)
  (al:List Value) (hal:al.length = 9) (hx:Blk w g 46 (rencV (d.W:Int) (d.H:Int) (G:Int) (q:Int) (tg:Int) (nu:Int) al)) (ahd:Pix) (hah:nu ≠ 0 → ∃ B' b0 k0 b1 k1 b2 k2,al = frV d b0 k0 b1 k1 b2 k2 ∧ FrB w B' d b0 k0 b1 k1 b2 k2 ahd)
  (A0 A1 A2:Option Addr) (c0 c1 c2:Nat) (fr:Pix) (hf:FrIn w d (flV d A0 A1 A2 c0 c1 c2) fr) (hwh:wholeI d.W d.H d.nY d.W2 d.H2 d.nC d.W2 d.H2 d.nC = true) :
  Calls Tryz.prog 17 #[.pointer (some ⟨g,0,none⟩),.agg (flV d A0 A1 A2 c0 c1 c2).toArray] w (ReFrPost w g G q tg nu d (eframe d fr ahd nu q)):=by
 obtain ⟨x0,x1,x2,x3,x4,x5,x6,x7,x8,rfl⟩:=list9_ hal
 obtain ⟨a1,a2,a3,a4,a5,a6⟩:=area_le hd.sides
 have hw16:=hd.w16
 have hh16:=hd.h16
 have hsN:d.nY ≤ 1048576:=by
  rw [hd.ny]
  have:=Nat.mul_le_mul hW hH
  omega
 have h0:=((Sat.one (fun _=>False) hx).alloc 40 #[.int .i64 (d.W:Int),.int .i64 (d.H:Int),.slice A0 d.nY c0,.int .i64 (d.W2:Int),.int .i64 (d.H2:Int),.slice A1 d.nC c1,.int .i64 (d.W2:Int),.int .i64 (d.H2:Int),.slice A2 d.nC c2] rfl).alloc (g:=w.heap.size + 1) 40 #[.int .i64 0,.int .i64 0,.slice none 0 0,.int .i64 0,.int .i64 0,.slice none 0 0,.int .i64 0,.int .i64 0,.slice none 0 0] (by simp)
 have hgl:=hx.lt
 have HI:=Lib.hid (And.intro hah (And.intro hf (And.intro hwh (And.intro hsr hx))))
 have HS0:=Lib.hid h0
 clear h0 hx hah hf hwh hsr hal a1 a2 a3 a4 a5 a6
 unfold flV
 go_enter Tryz.func17,Tryz.ntmps17
 go_upto_region 1 with (fail)
 have hS1:=HS0.out
 generalize ((w.alloc (.cells #[.int .i64 (d.W:Int),.int .i64 (d.H:Int),.slice A0 d.nY c0,.int .i64 (d.W2:Int),.int .i64 (d.H2:Int),.slice A1 d.nC c1,.int .i64 (d.W2:Int),.int .i64 (d.H2:Int),.slice A2 d.nC c2] 40)).alloc (.cells #[.int .i64 0,.int .i64 0,.slice none 0 0,.int .i64 0,.int .i64 0,.slice none 0 0,.int .i64 0,.int .i64 0,.slice none 0 0] 40)) = w1 at hS1 ⊢
 have hq1:=hS1.own_ 1 rfl
 dsimp only at hq1
 obtain ⟨f0,ff⟩:=hq1.both
 have fl:=hq1.lt
 clear hq1
 have HS1:=Lib.hid hS1
 clear hS1 HS0
 have HWH:=Lib.hid (reWhole w1 d.W d.H d.W2 d.H2 d.W2 d.H2 A0 A1 A2 d.nY c0 d.nC c1 d.nC c2)
 go_wp2_with fail
 refine HWH.out.mono ?_
 rintro e w2 ⟨rfl,hm2⟩
 rw [HI.out.2.2.1]
 have hS2:=HS1.out.quiet hm2
 clear f0 ff fl hm2 HS1 HWH
 go_upto_region 2 with (fail)
 have hg2:Blk w2 g 46 (rencV (d.W:Int) (d.H:Int) (G:Int) (q:Int) (tg:Int) (nu:Int) [x0,x1,x2,x3,x4,x5,x6,x7,x8]):=hS2.old_ 0 rfl
 have hf2:Blk w2 w.heap.size 40 #[.int .i64 (d.W:Int),.int .i64 (d.H:Int),.slice A0 d.nY c0,.int .i64 (d.W2:Int),.int .i64 (d.H2:Int),.slice A1 d.nC c1,.int .i64 (d.W2:Int),.int .i64 (d.H2:Int),.slice A2 d.nC c2]:=hS2.own_ 1 rfl
 have hr2:Blk w2 (w.heap.size + 1) 40 #[.int .i64 0,.int .i64 0,.slice none 0 0,.int .i64 0,.int .i64 0,.slice none 0 0,.int .i64 0,.int .i64 0,.slice none 0 0]:=hS2.own_ 0 rfl
 have hm2:=hS2.mod
 have s0:w2.cell? ⟨g,0,none⟩ = some (.int .i64 (d.W:Int)):=hg2.cell 0
 have s1:w2.cell? ⟨g,1,none⟩ = some (.int .i64 (d.H:Int)):=hg2.cell 1
 have fw:w2.cell? ⟨w.heap.size,0,none⟩ = some (.int .i64 (d.W:Int)):=hf2.cell 0
 have fh:w2.cell? ⟨w.heap.size,1,none⟩ = some (.int .i64 (d.H:Int)):=hf2.cell 1
 have HS2:=Lib.hid (And.intro hg2 (And.intro hf2 (And.intro hr2 hm2)))
 clear hS2 hg2 hf2 hr2 hm2
 go_quiet (fail)
 have HS2:=Lib.hid (And.intro (Blk.keep HS2.out.1 (Mod.drewN (Mod.refl (fun _=>False) w2) nq) (fun h=>h)) (And.intro (Blk.keep HS2.out.2.1 (Mod.drewN (Mod.refl (fun _=>False) w2) nq) (fun h=>h)) (And.intro (Blk.keep HS2.out.2.2.1 (Mod.drewN (Mod.refl (fun _=>False) w2) nq) (fun h=>h)) (HS2.out.2.2.2.drewN nq))))
 clear s0 s1 fw fh
 generalize w2.drewN nq = w3 at *
 go_upto_region 4 with (fail)
 refine wp_region_planT [14,15] [0,1,2,3,4,5,6,7,8,9,10,11,12,13] (0 :: 1 :: 2 :: 3 :: 4 :: 5 :: 6 :: 7 :: 8 :: 9 :: 10 :: 11 :: 12 :: 13 :: 14 :: 15 :: []) (fun w'=>Blk w' g 46 (rencV (d.W:Int) (d.H:Int) (G:Int) (q:Int) (tg:Int) (nu:Int) [x0,x1,x2,x3,x4,x5,x6,x7,x8])) (by kernel_rfl) (by kernel_rfl) (fun _ _ _ d _ h=>by cases d <;> exact h) HS2.out.1.drew ?_
 refine planT_read (v:=.pointer (some ⟨g,0,none⟩)) rfl rfl rfl (fun _ _=>rfl) (fun K hK=>?_);go_simp;refine hK _ ?_;clear hK K
 refine planT_read (v:=.pointer (some ⟨g,0,none⟩)) rfl rfl rfl (fun _ _=>rfl) (fun K hK=>?_);go_simp;refine hK _ ?_;clear hK K
 refine planT_read (v:=.pointer (some ⟨g,5,none⟩)) rfl rfl rfl (fun _ _=>rfl) (fun K hK=>?_);go_simp;refine hK _ ?_;clear hK K
 refine planT_one rfl rfl _ _ rfl rfl g 5 rfl (.int .i64 (nu:Int)) _ (fun w' hS=>Blk.cell hS 5) Tryz.underlying3 rfl (fun K hK=>?_);go_simp;refine hK _ ?_;clear hK K
 refine planT_read (v:=.bool ((nu:Int) == 0)) rfl rfl rfl (fun _ _=>rfl) (fun K hK=>?_);go_simp;refine hK _ ?_;clear hK K
 refine planT_read (v:=.pointer (some ⟨g,0,none⟩)) rfl rfl rfl (fun _ _=>rfl) (fun K hK=>?_);go_simp;refine hK _ ?_;clear hK K
 refine planT_read (v:=.pointer (some ⟨g,0,none⟩)) rfl rfl rfl (fun _ _=>rfl) (fun K hK=>?_);go_simp;refine hK _ ?_;clear hK K
 refine planT_read (v:=.pointer (some ⟨g,5,none⟩)) rfl rfl rfl (fun _ _=>rfl) (fun K hK=>?_);go_simp;refine hK _ ?_;clear hK K
 refine planT_one rfl rfl _ _ rfl rfl g 5 rfl (.int .i64 (nu:Int)) _ (fun w' hS=>Blk.cell hS 5) Tryz.underlying3 rfl (fun K hK=>?_);go_simp;refine hK _ ?_;clear hK K
 refine planT_read (v:=.pointer (some ⟨g,0,none⟩)) rfl rfl rfl (fun _ _=>rfl) (fun K hK=>?_);go_simp;refine hK _ ?_;clear hK K
 refine planT_read (v:=.pointer (some ⟨g,0,none⟩)) rfl rfl rfl (fun _ _=>rfl) (fun K hK=>?_);go_simp;refine hK _ ?_;clear hK K
 refine planT_read (v:=.pointer (some ⟨g,3,none⟩)) rfl rfl rfl (fun _ _=>rfl) (fun K hK=>?_);go_simp;refine hK _ ?_;clear hK K
 refine planT_one rfl rfl _ _ rfl rfl g 3 rfl (.int .i64 (q:Int)) _ (fun w' hS=>Blk.cell hS 3) Tryz.underlying3 rfl (fun K hK=>?_);go_simp;refine hK _ ?_;clear hK K
 refine planT_read (v:=.agg #[.bool ((nu:Int) == 0),.int .i64 (nu:Int),.int .i64 (q:Int)]) rfl rfl rfl (fun w' _=>by first | kernel_rfl | go_simp) (fun K hK=>?_);go_simp;refine hK _ ?_;clear hK K
 have HM:=Lib.hid ((Mod.refl (fun _=>False) w3).drew)
 generalize w3.drew = w4 at HM ⊢
 refine planT_loud rfl rfl (fun K hK=>?_)
 go_simp
 have hb4:=Blk.new w4 82 #[.bool false,.int .i64 0,.int .i64 0]
 have hmA:=HM.out.alloc (.cells #[.bool false,.int .i64 0,.int .i64 0] 82)
 have hlb:=HM.out.size
 obtain ⟨hb,hhb⟩:∃ hb,hb = w4.heap.size:=⟨_,rfl⟩
 rw [← hhb] at hb4 hlb ⊢
 clear hhb
 generalize w4.alloc (.cells #[.bool false,.int .i64 0,.int .i64 0] 82) = w5 at *
 refine hK _ _ (Blk.keep HS2.out.1 hmA (fun h=>h)) ?_
 clear hK K
 refine planT_last rfl rfl (fun K hK=>?_)
 rw [if_pos (by rfl)]
 refine wp_store_row 82 (.tmp 8) (.tmp 60) rfl hb [.bool ((nu:Int) == 0),.int .i64 (nu:Int),.int .i64 (q:Int)] rfl rfl 82 [.bool false,.int .i64 0,.int .i64 0] hb4 rfl (by kernel_rfl) (by kernel_rfl) (fun w6 hb6 hm6=>?_)
 go_simp
 refine hK _ _ ?_
 clear hK K
 refine planT_done ?_
 have hM6:Mod (fun _=>False) w3 w6:=hmA.into hm6 (fun j e=>.inr (by have e2:j = hb:=e;omega))
 have H4:=Lib.hid (And.intro (Blk.keep HS2.out.1 hM6 (fun h=>h)) (And.intro hb6 (And.intro (Blk.keep HS2.out.2.1 hM6 (fun h=>h)) (And.intro (Blk.keep HS2.out.2.2.1 hM6 (fun h=>h)) (HS2.out.2.2.2.trans hM6)))))
 clear hM6 hb4 hmA hlb hb6 hm6 HM HS2
 have hK1:((nu:Int) == 0) = (nu == 0):=by
  cases nu with
  | zero=>rfl
  | succ n=>
   rw [show ((n + 1 == 0):Bool) = false from rfl]
   simp
   omega
 have HK1:=Lib.hid hK1
 clear hK1
 go_upto_region 5 with (fail)
 refine wp_region_planT [5] [0,1,2,3,4] (0 :: 1 :: 2 :: 3 :: 4 :: 5 :: 6 :: 7 :: 8 :: 9 :: 10 :: []) (fun w'=>Blk w' g 46 (rencV (d.W:Int) (d.H:Int) (G:Int) (q:Int) (tg:Int) (nu:Int) [x0,x1,x2,x3,x4,x5,x6,x7,x8]) ∧ Blk w' hb 82 #[.bool ((nu:Int) == 0),.int .i64 (nu:Int),.int .i64 (q:Int)]) (by kernel_rfl) (by kernel_rfl) (fun _ _ _ d _ h=>by cases d <;> exact h) ⟨H4.out.1.drew,H4.out.2.1.drew⟩ ?_
 refine planT_load rfl rfl _ _ rfl rfl hb 0 rfl [.bool ((nu:Int) == 0),.int .i64 (nu:Int),.int .i64 (q:Int)] _ (fun w' hS=>hS.2.range 0 _ rfl) Tryz.underlying82 rfl (by kernel_rfl) (fun K hK=>?_);go_simp;refine hK _ ?_;clear hK K
 refine planT_read (v:=.pointer (some ⟨g,0,none⟩)) rfl rfl rfl (fun _ _=>rfl) (fun K hK=>?_);go_simp;refine hK _ ?_;clear hK K
 refine planT_read (v:=.pointer (some ⟨g,0,none⟩)) rfl rfl rfl (fun _ _=>rfl) (fun K hK=>?_);go_simp;refine hK _ ?_;clear hK K
 refine planT_read (v:=.pointer (some ⟨g,0,none⟩)) rfl rfl rfl (fun _ _=>rfl) (fun K hK=>?_);go_simp;refine hK _ ?_;clear hK K
 refine planT_load rfl rfl _ _ rfl rfl g 0 rfl [.int .i64 (d.W:Int),.int .i64 (d.H:Int),.int .i64 (G:Int)] _ (fun w' hS=>hS.1.range 0 _ rfl) Tryz.underlying23 rfl (by kernel_rfl) (fun K hK=>?_);go_simp;refine hK _ ?_;clear hK K
 have hsr:=HI.out.2.2.2.1
 have HH:=Lib.hid (reHeader w6.drew (d.W:Int) (d.H:Int) (G:Int) hsr ((nu:Int) == 0) nu q (by rw [HK1.out];cases nu <;> rfl) (by omega) hq)
 clear hsr
 refine planT_last rfl rfl (fun K hK=>?_)
 go_simp
 refine HH.out.mono ?_
 rintro e w7 ⟨vo,rfl,hvo,hm7⟩
 rw [HK1.out] at hvo
 have hM7:=((Mod.refl (fun _=>False) w6).drew).trans hm7
 obtain ⟨h0,hh0⟩:∃ h,h = hdrB (nu == 0) nu q:=⟨_,rfl⟩
 rw [← hh0] at hvo
 have HHD:=Lib.hid hh0
 have H7:=Lib.hid (And.intro (Blk.keep H4.out.1 hM7 (fun h=>h)) (And.intro (Blk.keep H4.out.2.2.1 hM7 (fun h=>h)) (And.intro (Blk.keep H4.out.2.2.2.1 hM7 (fun h=>h)) (And.intro (H4.out.2.2.2.2.trans hM7) (hvo.down H4.out.2.2.2.2.size)))))
 dsimp only []
 refine hK _ _ ?_
 clear hK K hvo hm7 hM7 HH H4 hh0
 iterate 5 (refine planT_still rfl rfl (fun K hK=>?_);go_simp;refine hK _ ?_;clear hK K)
 refine planT_done ?_
 go_wp2_with fail
 refine (reNew w7).mono ?_
 rintro e w8 ⟨cg,v0,rfl,hea,lcg,lv0,hm8⟩
 have H8:=Lib.hid (And.intro hea (And.intro lcg (And.intro lv0 hm8)))
 clear hea lcg lv0 hm8
 go_wp2_with fail
 refine (fBookNew w8).mono ?_
 rintro e wb ⟨bk,rfl,hbk,lbk,hmb⟩
 have hMb:=H8.out.2.2.2.trans hmb
 have heb:REb wb bk cg v0 es0:=⟨hbk,fillB_length 16 (Nat.le_refl _),fill_ok,H8.out.1.quiet hmb⟩
 have HE:=Lib.hid (And.intro heb (And.intro (Nat.le_trans H8.out.2.2.2.size lbk) (And.intro H8.out.2.1 (And.intro H8.out.2.2.1 hMb))))
 have HX8:=Lib.hid (Blk.keep H7.out.1 hMb (fun h=>h))
 clear hbk lbk hmb hMb heb H8
 go_upto_region 8 with (fail)
 go_cut [13,14] (fun v13 v14 wy=>ReBox wb d (blankPix d 0) v13 v14 wy)
 case first=>
  as_aux_lemma=>
   refine wp_region_planF [10,14,15] [0,1,2,3,4,5,6,7,8,9,11,12,13] (PTree.after [0,1,2,3,4,5,6,7,8,9] (.fork 10 14 (.seq 11 (.seq 12 (.seq 13 (.seq 14 (.seq 15 (.seq 16 .nil)))))) (.seq 10 (.seq 11 (.seq 12 (.seq 13 (.seq 15 (.seq 16 .nil)))))))) (fun w'=>Blk w' g 46 (rencV (d.W:Int) (d.H:Int) (G:Int) (q:Int) (tg:Int) (nu:Int) [x0,x1,x2,x3,x4,x5,x6,x7,x8])) (by kernel_rfl) (by kernel_rfl) (fun _ _ _ d _ h=>by cases d <;> exact h) HX8.out.drew ?_
   refine planF_read (v:=.pointer (some ⟨g,0,none⟩)) rfl rfl rfl (fun _ _=>rfl) (fun K hK=>?_);go_simp;refine hK _ ?_;clear hK K
   refine planF_read (v:=.pointer (some ⟨g,0,none⟩)) rfl rfl rfl (fun _ _=>rfl) (fun K hK=>?_);go_simp;refine hK _ ?_;clear hK K
   refine planF_read (v:=.pointer (some ⟨g,0,none⟩)) rfl rfl rfl (fun _ _=>rfl) (fun K hK=>?_);go_simp;refine hK _ ?_;clear hK K
   refine planF_read (v:=.pointer (some ⟨g,0,none⟩)) rfl rfl rfl (fun _ _=>rfl) (fun K hK=>?_);go_simp;refine hK _ ?_;clear hK K
   refine planF_one rfl rfl _ _ rfl rfl g 0 rfl (.int .i64 (d.W:Int)) _ (fun w' hS=>Blk.cell hS 0) Tryz.underlying3 rfl (fun K hK=>?_);go_simp;refine hK _ ?_;clear hK K
   refine planF_read (v:=.pointer (some ⟨g,0,none⟩)) rfl rfl rfl (fun _ _=>rfl) (fun K hK=>?_);go_simp;refine hK _ ?_;clear hK K
   refine planF_read (v:=.pointer (some ⟨g,0,none⟩)) rfl rfl rfl (fun _ _=>rfl) (fun K hK=>?_);go_simp;refine hK _ ?_;clear hK K
   refine planF_read (v:=.pointer (some ⟨g,0,none⟩)) rfl rfl rfl (fun _ _=>rfl) (fun K hK=>?_);go_simp;refine hK _ ?_;clear hK K
   refine planF_read (v:=.pointer (some ⟨g,1,none⟩)) rfl rfl rfl (fun _ _=>rfl) (fun K hK=>?_);go_simp;refine hK _ ?_;clear hK K
   refine planF_one rfl rfl _ _ rfl rfl g 1 rfl (.int .i64 (d.H:Int)) _ (fun w' hS=>Blk.cell hS 1) Tryz.underlying3 rfl (fun K hK=>?_);go_simp;refine hK _ ?_;clear hK K
   have HM:=Lib.hid ((Mod.refl (fun _=>False) wb).drew)
   generalize wb.drew = w9 at HM ⊢
   refine planF_fork rfl rfl (fun K hK=>?_) (fun K hK=>?_)
   ·go_simp
    refine (reBlank0 w9 d hd).mono ?_
    rintro e w9 ⟨p,rfl,⟨q0,r0,q1,r1,q2,r2,rfl,hfr⟩,hm9⟩
    have HF:=Lib.hid (hfr.down HM.out.size)
    have HM:=Lib.hid (HM.out.trans hm9)
    dsimp only []
    refine hK _ _ (HX8.out.keep HM.out (fun h=>h)) ?_
    clear hK K hfr hm9
    refine planF_read (v:=.tuple #[.agg (frV d q0 r0 q1 r1 q2 r2).toArray,.int .i64 0]) rfl rfl rfl (fun _ _=>rfl) (fun K hK=>?_);go_simp;refine hK _ ?_;clear hK K
    refine planF_read (v:=.agg (frV d q0 r0 q1 r1 q2 r2).toArray) rfl rfl rfl (fun _ _=>rfl) (fun K hK=>?_);go_simp;refine hK _ ?_;clear hK K
    refine planF_read (v:=.int .i64 0) rfl rfl rfl (fun _ _=>rfl) (fun K hK=>?_);go_simp;refine hK _ ?_;clear hK K
    refine planF_loud rfl rfl (fun K hK=>?_)
    go_simp
    have HZ:=Lib.hid (Blk.new w9 40 #[.int .i64 0,.int .i64 0,.slice none 0 0,.int .i64 0,.int .i64 0,.slice none 0 0,.int .i64 0,.int .i64 0,.slice none 0 0])
    have LGB:=HM.out.size
    have HA:=Lib.hid ((Mod.refl (fun _=>False) w9).alloc (.cells #[.int .i64 0,.int .i64 0,.slice none 0 0,.int .i64 0,.int .i64 0,.slice none 0 0,.int .i64 0,.int .i64 0,.slice none 0 0] 40))
    have HM:=Lib.hid (HM.out.alloc (.cells #[.int .i64 0,.int .i64 0,.slice none 0 0,.int .i64 0,.int .i64 0,.slice none 0 0,.int .i64 0,.int .i64 0,.slice none 0 0] 40))
    have HF:=Lib.hid (HF.out.quiet HA.out)
    obtain ⟨zb,hzb⟩:∃ zb,zb = w9.heap.size:=⟨_,rfl⟩
    rw [← hzb] at HZ LGB ⊢
    clear hzb
    generalize w9.alloc (.cells #[.int .i64 0,.int .i64 0,.slice none 0 0,.int .i64 0,.int .i64 0,.slice none 0 0,.int .i64 0,.int .i64 0,.slice none 0 0] 40) = w9 at *
    refine hK _ _ (HX8.out.keep HM.out (fun h=>h)) ?_
    clear hK K
    refine planF_loud rfl rfl (fun K hK=>?_)
    rw [if_pos (by rfl)]
    refine wp_store_row 40 (.tmp 13) (.tmp 84) rfl zb (frV d q0 r0 q1 r1 q2 r2) rfl rfl 40 [.int .i64 0,.int .i64 0,.slice none 0 0,.int .i64 0,.int .i64 0,.slice none 0 0,.int .i64 0,.int .i64 0,.slice none 0 0] HZ.out rfl (by kernel_rfl) (by kernel_rfl) (fun w11 hb11 hm11=>?_)
    go_simp
    refine hK _ _ (Blk.keep (Blk.keep HX8.out HM.out (fun h=>h)) hm11 (Blk.ne_ (Blk.keep HX8.out HM.out (fun h=>h)) HZ.out (by decide))) ?_
    clear hK K
    refine planF_still rfl rfl (fun K hK=>?_);go_simp;refine hK _ ?_;clear hK K
    refine planF_done ?_
    go_wp2_with fail
    go_meet
    exact ⟨rfl,zb,q0,r0,q1,r1,q2,r2,rfl,hb11,HF.out.mod hm11 (fun j e=>.inr ⟨40,_,e ▸ HZ.out,by decide⟩),LGB,HM.out.into hm11 (fun j e=>.inr (by have e2:j = zb:=e;omega))⟩
   ·go_simp
    have HZ:=Lib.hid (Blk.new w9 40 #[.int .i64 0,.int .i64 0,.slice none 0 0,.int .i64 0,.int .i64 0,.slice none 0 0,.int .i64 0,.int .i64 0,.slice none 0 0])
    have LGB:=HM.out.size
    have HA:=Lib.hid ((Mod.refl (fun _=>False) w9).alloc (.cells #[.int .i64 0,.int .i64 0,.slice none 0 0,.int .i64 0,.int .i64 0,.slice none 0 0,.int .i64 0,.int .i64 0,.slice none 0 0] 40))
    have HM:=Lib.hid (HM.out.alloc (.cells #[.int .i64 0,.int .i64 0,.slice none 0 0,.int .i64 0,.int .i64 0,.slice none 0 0,.int .i64 0,.int .i64 0,.slice none 0 0] 40))
    obtain ⟨zb,hzb⟩:∃ zb,zb = w9.heap.size:=⟨_,rfl⟩
    rw [← hzb] at HZ LGB ⊢
    clear hzb
    generalize w9.alloc (.cells #[.int .i64 0,.int .i64 0,.slice none 0 0,.int .i64 0,.int .i64 0,.slice none 0 0,.int .i64 0,.int .i64 0,.slice none 0 0] 40) = w9 at *
    refine hK _ _ (HX8.out.keep HM.out (fun h=>h)) ?_
    clear hK K
    refine planF_loud rfl rfl (fun K hK=>?_)
    go_simp
    refine (reBlank0 w9 d hd).mono ?_
    rintro e w9 ⟨p,rfl,⟨q0,r0,q1,r1,q2,r2,rfl,hfr⟩,hm9⟩
    have HF:=Lib.hid (hfr.down HM.out.size)
    have HM:=Lib.hid (HM.out.trans hm9)
    have HZ:=Lib.hid (HZ.out.keep hm9 (fun h=>h))
    dsimp only []
    refine hK _ _ (HX8.out.keep HM.out (fun h=>h)) ?_
    clear hK K hfr hm9
    refine planF_read (v:=.tuple #[.agg (frV d q0 r0 q1 r1 q2 r2).toArray,.int .i64 0]) rfl rfl rfl (fun _ _=>rfl) (fun K hK=>?_);go_simp;refine hK _ ?_;clear hK K
    refine planF_read (v:=.agg (frV d q0 r0 q1 r1 q2 r2).toArray) rfl rfl rfl (fun _ _=>rfl) (fun K hK=>?_);go_simp;refine hK _ ?_;clear hK K
    refine planF_read (v:=.int .i64 0) rfl rfl rfl (fun _ _=>rfl) (fun K hK=>?_);go_simp;refine hK _ ?_;clear hK K
    refine planF_loud rfl rfl (fun K hK=>?_)
    rw [if_pos (by rfl)]
    refine wp_store_row 40 (.tmp 13) (.tmp 84) rfl zb (frV d q0 r0 q1 r1 q2 r2) rfl rfl 40 [.int .i64 0,.int .i64 0,.slice none 0 0,.int .i64 0,.int .i64 0,.slice none 0 0,.int .i64 0,.int .i64 0,.slice none 0 0] HZ.out rfl (by kernel_rfl) (by kernel_rfl) (fun w11 hb11 hm11=>?_)
    go_simp
    refine hK _ _ (Blk.keep (Blk.keep HX8.out HM.out (fun h=>h)) hm11 (Blk.ne_ (Blk.keep HX8.out HM.out (fun h=>h)) HZ.out (by decide))) ?_
    clear hK K
    refine planF_still rfl rfl (fun K hK=>?_);go_simp;refine hK _ ?_;clear hK K
    refine planF_done ?_
    go_wp2_with fail
    go_meet
    exact ⟨rfl,zb,q0,r0,q1,r1,q2,r2,rfl,hb11,HF.out.mod hm11 (fun j e=>.inr ⟨40,_,e ▸ HZ.out,by decide⟩),LGB,HM.out.into hm11 (fun j e=>.inr (by have e2:j = zb:=e;omega))⟩
 case rest=>
  obtain ⟨rfl,gb,e0,j0,e1,j1,e2,j2,rfl,hgb,hfr,lgb,hmx⟩:=hcut
  rename World=>wx
  have hM:=HE.out.2.2.2.2.trans hmx
  have hR:RSq w7 wx bk cg v0 es0 wb.heap.size d e0 j0 e1 j1 e2 j2 (blankPix d 0):=⟨hM,HE.out.1.quiet hmx,HE.out.2.1,HE.out.2.2.1,HE.out.2.2.2.1,hfr⟩
  have hB:ReB w wx w.heap.size (w.heap.size + 1) gb #[.int .i64 (d.W:Int),.int .i64 (d.H:Int),.slice A0 d.nY c0,.int .i64 (d.W2:Int),.int .i64 (d.H2:Int),.slice A1 d.nC c1,.int .i64 (d.W2:Int),.int .i64 (d.H2:Int),.slice A2 d.nC c2] (frV d e0 j0 e1 j1 e2 j2).toArray w.heap.size vo h0:=⟨Blk.keep H7.out.2.1 hM (fun h=>h),Blk.keep H7.out.2.2.1 hM (fun h=>h),hgb,H7.out.2.2.2.2.quiet hM,H7.out.2.2.2.1.trans hM⟩
  have hwA:w.heap.size ≤ w7.heap.size:=H7.out.2.2.2.1.size
  have lb1:w.heap.size + 1 < w7.heap.size:=Blk.lt H7.out.2.2.1
  have lb2:w7.heap.size ≤ wb.heap.size:=HE.out.2.2.2.2.size
  have HVO:=Lib.hid (fun j (e:vo.ownBlock = some j)=>(World.ownsRow.lt H7.out.2.2.2.2 j e).2)
  have hah7:nu ≠ 0 → ∃ B' b0 k0 b1 k1 b2 k2,[x0,x1,x2,x3,x4,x5,x6,x7,x8] = frV d b0 k0 b1 k1 b2 k2 ∧ FrB w7 B' d b0 k0 b1 k1 b2 k2 ahd:=fun hn=>by
   obtain ⟨B',b0,k0,b1,k1,b2,k2,h1,h2⟩:=HI.out.1 hn
   exact ⟨B',b0,k0,b1,k1,b2,k2,h1,h2.quiet H7.out.2.2.2.1⟩
  have H9:=Lib.hid (And.intro H7.out.1 (And.intro hah7 (HI.out.2.1.quiet H7.out.2.2.2.1)))
  have HL:=Lib.hid (And.intro hR hB)
  clear hM hR hB hgb hfr hmx hah7 HE HX8 H7
  go_wp2_with fail
  go_loopw [15] (ReRows w7 w wb.heap.size bk cg w.heap.size (w.heap.size + 1) gb d fr ahd (nu == 0) (q:Int) #[.int .i64 (d.W:Int),.int .i64 (d.H:Int),.slice A0 d.nY c0,.int .i64 (d.W2:Int),.int .i64 (d.H2:Int),.slice A1 d.nC c1,.int .i64 (d.W2:Int),.int .i64 (d.H2:Int),.slice A2 d.nC c2] w.heap.size vo h0 (d.H / 16)) (fun s _=>d.H - (intOf s).toNat)
  case atStart=>exact ⟨0,0,v0,e0,j0,e1,j1,e2,j2,by omega,rfl,rfl,HL.out.1,HL.out.2⟩
  case round=>
   clear HL
   obtain ⟨i,X,v,e0,j0,e1,j1,e2,j2,hi,hX,rfl,hR,hB⟩:=hrel
   rename World=>wr
   have g1:wr.cell? ⟨g,1,none⟩ = some (.int .i64 (d.H:Int)):=(Blk.keep H9.out.1 hR.mod (fun h=>h)).cell 1
   by_cases hlt:i < d.H / 16
   ·have hXH:X + 16 ≤ d.H:=by omega
    have d1:decide ((X:Int) < (d.H:Int)) = true:=decide_eq_true (by omega)
    have n1:X < d.H:=by omega
    have HX:=Lib.hid hX
    have HQ:=Lib.hid (And.intro hR hB)
    clear hX hR hB
    go_wp2_with fail
    go_loopw [16] (ReRow w7 w wb.heap.size bk cg w.heap.size (w.heap.size + 1) gb d fr ahd (nu == 0) (q:Int) #[.int .i64 (d.W:Int),.int .i64 (d.H:Int),.slice A0 d.nY c0,.int .i64 (d.W2:Int),.int .i64 (d.H2:Int),.slice A1 d.nC c1,.int .i64 (d.W2:Int),.int .i64 (d.H2:Int),.slice A2 d.nC c2] w.heap.size vo h0 (d.W / 16) i) (fun s _=>d.W - (intOf s).toNat)
    case atStart=>exact ⟨0,0,v,e0,j0,e1,j1,e2,j2,by omega,rfl,rfl,HQ.out.1,HQ.out.2⟩
    case round=>
     clear HQ g1
     obtain ⟨j,Y,v,e0,j0,e1,j1,e2,j2,hj,hY,rfl,hR,hB⟩:=hrel
     rename World=>wq
     have g0:wq.cell? ⟨g,0,none⟩ = some (.int .i64 (d.W:Int)):=(Blk.keep H9.out.1 hR.mod (fun h=>h)).cell 0
     by_cases hlj:j < d.W / 16
     ·have hYW:Y + 16 ≤ d.W:=by omega
      have d2:decide ((Y:Int) < (d.W:Int)) = true:=decide_eq_true (by omega)
      have n2:Y < d.W:=by omega
      have hlen:(erow d fr ahd (nu == 0) (q:Int) i j (erows d fr ahd (nu == 0) (q:Int) i (blankPix d 0,es0))).2.code.length + 20000 ≤ 1048576:=by
       have h1:=erows_len (d:=d) (fr:=fr) (ahd:=ahd) (K:=nu == 0) (Q:=(q:Int)) ⟨by omega,by omega⟩ i (blankPix d 0,es0)
       have h2:=erow_len (d:=d) (fr:=fr) (ahd:=ahd) (K:=nu == 0) (Q:=(q:Int)) ⟨by omega,by omega⟩ i j (erows d fr ahd (nu == 0) (q:Int) i (blankPix d 0,es0))
       have h3:i * (d.W / 16 * 16500) ≤ 3 * (4 * 16500):=Nat.mul_le_mul (by omega) (Nat.mul_le_mul (by omega) (Nat.le_refl _))
       have h4:es0.code.length = 4:=rfl
       dsimp only at h1
       omega
      have SQ:=reSquare w7 wq g (G:Int) (tg:Int) q nu hq d hd hsN [x0,x1,x2,x3,x4,x5,x6,x7,x8] ahd H9.out.1 H9.out.2.1 A0 A1 A2 c0 c1 c2 fr H9.out.2.2 bk cg v _ wb.heap.size e0 j0 e1 j1 e2 j2 _ hR j i (by omega) (by have:=HX.out;omega) hlen
      have hr:esquareS d fr ahd (nu == 0) (q:Int) j i (erow d fr ahd (nu == 0) (q:Int) i j (erows d fr ahd (nu == 0) (q:Int) i (blankPix d 0,es0))).1 (erow d fr ahd (nu == 0) (q:Int) i j (erows d fr ahd (nu == 0) (q:Int) i (blankPix d 0,es0))).2 = erow d fr ahd (nu == 0) (q:Int) i (j + 1) (erows d fr ahd (nu == 0) (q:Int) i (blankPix d 0,es0)):=rfl
      rw [hr,← hY,← HX.out] at SQ
      unfold flV frV at SQ
      obtain ⟨fc,ff⟩:=hB.f_.both
      obtain ⟨zc,zf⟩:=hB.g_.both
      unfold frV at zc
      have HQ:=Lib.hid (And.intro hR hB)
      have HS:=Lib.hid SQ
      have HY:=Lib.hid hY
      clear hR hB SQ hY hr hlen
      go_wp2_with fail
      refine HS.out.mono ?_
      rintro e ws ⟨v',q0,r0,q1,r1,q2,r2,rfl,hR',hF',hM'⟩
      clear fc ff zc zf HS
      have hz:=HQ.out.2.g_.keep hM' (HQ.out.1.eb.off HQ.out.2.g_ (by decide) (by decide) (by decide))
      obtain ⟨zc,zf⟩:=hz.both
      unfold frV at zc
      have zl:=hz.lt
      have HR:=Lib.hid (And.intro hR' hM')
      clear hR' hF' hM' hz
      unfold frV
      go_wp2_with fail
      go_roundw
      case rel=>
       have hz:=ReB.step hwA (by omega) (by omega) (by omega) HQ.out.1 HQ.out.2 HR.out.1 HR.out.2
       exact ⟨j + 1,Y + 16,v',q0,r0,q1,r1,q2,r2,by omega,by have:=HY.out;omega,by go_num,hz.1,hz.2⟩
      case measure=>simp [intOf];omega
     ·have hYW:Y = d.W:=by omega
      have d2:decide ((Y:Int) < (d.W:Int)) = false:=decide_eq_false (by omega)
      have n2:¬ Y < d.W:=by omega
      have hjW:j = d.W / 16:=by omega
      have HQ:=Lib.hid (And.intro hR (And.intro hB hjW))
      clear hR hB hYW hjW hY
      go_wp2_with fail
      go_roundw
      case rel=>
       have hQ1:=HQ.out.1
       rw [HQ.out.2.2] at hQ1
       have hr:erow d fr ahd (nu == 0) (q:Int) i (d.W / 16) (erows d fr ahd (nu == 0) (q:Int) i (blankPix d 0,es0)) = erows d fr ahd (nu == 0) (q:Int) (i + 1) (blankPix d 0,es0):=rfl
       rw [hr] at hQ1
       exact ⟨i + 1,X + 16,v,e0,j0,e1,j1,e2,j2,by omega,by have:=HX.out;omega,by go_num,hQ1,HQ.out.2.1⟩
      case measure=>simp [intOf];omega
   ·have d1:decide ((X:Int) < (d.H:Int)) = false:=decide_eq_false (by omega)
    have n1:¬ X < d.H:=by omega
    have hiH:i = d.H / 16:=by omega
    obtain ⟨X9,hX9⟩:∃ X9,X9 = ecode d fr ahd (nu == 0) (q:Int):=⟨_,rfl⟩
    have hE9:erows d fr ahd (nu == 0) (q:Int) i (blankPix d 0,es0) = X9:=by rw [hX9,hiH];rfl
    rw [hE9] at hR
    have hlc:=ecode_len (d:=d) (fr:=fr) (ahd:=ahd) (K:=nu == 0) (Q:=(q:Int)) ⟨by omega,by omega⟩ hW hH
    rw [← hX9] at hlc
    obtain ⟨Ao,co,hvo⟩:=own_shape hB.o_
    subst hvo
    have HQ:=Lib.hid (And.intro hR (And.intro hB (And.intro hlc hX9)))
    have hlc1:=hlc.1
    have hlc2:=hlc.2
    clear hR hB hE9 hX9 hX hiH hlc
    go_wp2_with fail
    refine (reBytes wr cg v X9.2.code X9.2.wide HQ.out.1.eb.enc (by omega)).mono ?_
    rintro e w10 ⟨vb,rfl,hvb,hm10⟩
    obtain ⟨A8,n8,rfl⟩:=own_shape hvb
    have hR10:=HQ.out.1.quiet hm10
    have hB10:=HQ.out.2.1.quiet hm10
    have hhl:=hdrB_len nu (by omega) q (by omega)
    rw [← HHD.out] at hhl
    have hw10:w.heap.size ≤ w10.heap.size:=hB10.mod.size
    have hsum:h0.length + X9.2.code.length ≤ 1048576:=by omega
    have HD:=Lib.hid (And.intro hR10 (And.intro hB10 (And.intro hvb.in_ (And.intro hw10 hsum))))
    clear hvb hm10 hR10 hB10 hhl hw10 hsum g1
    go_upto_region 17 with (at_builtin;have _t:=HD;refine wpList_app_u8s _ rfl _ (.tmp 114) rfl w.heap.size (.slice Ao h0.length co) h0 A8 X9.2.code.length n8 X9.2.code rfl rfl HD.out.2.1.o_ HD.out.2.2.1 HD.out.2.2.2.1 HD.out.2.2.2.2 ?_;intro v11 w11 hown hMa hMb hF;obtain ⟨A11,c11,hv11⟩:=own_shape hown;obtain ⟨m11,hm11⟩:∃ m,m = (h0 ++ X9.2.code).length:=⟨_,rfl⟩;rw [← hm11] at hv11;subst hv11;have HO11:=Lib.hid (And.intro hown (And.intro hMa (And.intro hMb (And.intro hF hm11))));clear hown hMa hMb hF hm11)
    have hA:=HO11.out.2.1
    have hoff:∀ {X:Nat} {t:TypeId} {cs:Array Value},Blk w10 X t cs → t ≠ 5 → Blk w11 X t cs:=fun hb ht=>hb.keep hA (fun e=>HD.out.2.1.o_.apart hb ht e)
    have hx11:Blk w11 g 46 (rencV (d.W:Int) (d.H:Int) (G:Int) (q:Int) (tg:Int) (nu:Int) [x0,x1,x2,x3,x4,x5,x6,x7,x8]):=hoff (Blk.keep H9.out.1 HD.out.1.mod (fun h=>h)) (by decide)
    have hg11:Blk w11 gb 40 (frV d e0 j0 e1 j1 e2 j2).toArray:=hoff HD.out.2.1.g_ (by decide)
    have hr11:Blk w11 (w.heap.size + 1) 40 zeroFr.toArray:=hoff HD.out.2.1.r_ (by decide)
    have hf11:FrB w11 wb.heap.size d e0 j0 e1 j1 e2 j2 X9.1:=HD.out.1.fr.below hA (fun j e=>Nat.lt_of_lt_of_le (HVO.out j e) lb2)
    have hM11:Mod (fun _=>False) w w11:=HD.out.2.1.mod.into hA (fun j e=>.inr ((World.ownsRow.lt HD.out.2.1.o_ j e).1))
    have hm4:m11 ≤ 400000:=by
     have h1:=hdrB_len nu (by omega) q (by omega)
     rw [← HHD.out] at h1
     rw [HO11.out.2.2.2.2,List.length_append]
     omega
    have HX17:=Lib.hid (And.intro hx11 hg11)
    have HF9:=Lib.hid hf11
    have H11:=Lib.hid (And.intro hr11 (And.intro hM11 (And.intro HO11.out.1 (And.intro HO11.out.2.2.2.2 HQ.out.2.2.2))))
    clear hA hoff hx11 hg11 hr11 hf11 hM11 HD HO11 HQ
    go_cut [17,18] (fun v17 v18 wy=>ReBox w11 d (smPix q d X9.1) v17 v18 wy)
    case first=>
     as_aux_lemma=>
      refine wp_region_planF [5,9,10] [0,1,2,3,4,6,7,8] (PTree.after [0,1,2,3,4] (.fork 5 9 (.seq 6 (.seq 7 (.seq 8 (.seq 9 (.seq 10 (.seq 11 .nil)))))) (.seq 5 (.seq 6 (.seq 7 (.seq 8 (.seq 10 (.seq 11 .nil)))))))) (fun w'=>Blk w' g 46 (rencV (d.W:Int) (d.H:Int) (G:Int) (q:Int) (tg:Int) (nu:Int) [x0,x1,x2,x3,x4,x5,x6,x7,x8]) ∧ Blk w' gb 40 (frV d e0 j0 e1 j1 e2 j2).toArray) (by kernel_rfl) (by kernel_rfl) (fun _ _ _ d _ h=>by cases d <;> exact h) ⟨HX17.out.1.drew,HX17.out.2.drew⟩ ?_
      refine planF_load rfl rfl _ _ rfl rfl gb 0 rfl (frV d e0 j0 e1 j1 e2 j2) _ (fun w' hS=>hS.2.range 0 _ rfl) Tryz.underlying40 rfl (by kernel_rfl) (fun K hK=>?_);go_simp;refine hK _ ?_;clear hK K
      refine planF_read (v:=.pointer (some ⟨g,0,none⟩)) rfl rfl rfl (fun _ _=>rfl) (fun K hK=>?_);go_simp;refine hK _ ?_;clear hK K
      refine planF_read (v:=.pointer (some ⟨g,0,none⟩)) rfl rfl rfl (fun _ _=>rfl) (fun K hK=>?_);go_simp;refine hK _ ?_;clear hK K
      refine planF_read (v:=.pointer (some ⟨g,3,none⟩)) rfl rfl rfl (fun _ _=>rfl) (fun K hK=>?_);go_simp;refine hK _ ?_;clear hK K
      refine planF_one rfl rfl _ _ rfl rfl g 3 rfl (.int .i64 (q:Int)) _ (fun w' hS=>hS.1.cell 3) Tryz.underlying3 rfl (fun K hK=>?_);go_simp;refine hK _ ?_;clear hK K
      have HM:=Lib.hid ((Mod.refl (fun _=>False) w11).drew)
      generalize w11.drew = w9 at HM ⊢
      refine planF_fork rfl rfl (fun K hK=>?_) (fun K hK=>?_)
      ·go_simp
       refine (fDebFrame w9 _ d hd hsN e0 j0 e1 j1 e2 j2 X9.1 (HF9.out.quiet HM.out) q hq).mono ?_
       rintro e w9 ⟨p,rfl,⟨q0,r0,q1,r1,q2,r2,rfl,hfr⟩,hm9⟩
       have HF:=Lib.hid (hfr.down HM.out.size)
       have HM:=Lib.hid (HM.out.trans hm9)
       dsimp only []
       refine hK _ _ (⟨HX17.out.1.keep HM.out (fun h=>h),HX17.out.2.keep HM.out (fun h=>h)⟩) ?_
       clear hK K hfr hm9
       refine planF_read (v:=.tuple #[.agg (frV d q0 r0 q1 r1 q2 r2).toArray,.int .i64 0]) rfl rfl rfl (fun _ _=>rfl) (fun K hK=>?_);go_simp;refine hK _ ?_;clear hK K
       refine planF_read (v:=.agg (frV d q0 r0 q1 r1 q2 r2).toArray) rfl rfl rfl (fun _ _=>rfl) (fun K hK=>?_);go_simp;refine hK _ ?_;clear hK K
       refine planF_read (v:=.int .i64 0) rfl rfl rfl (fun _ _=>rfl) (fun K hK=>?_);go_simp;refine hK _ ?_;clear hK K
       refine planF_loud rfl rfl (fun K hK=>?_)
       go_simp
       have HZ:=Lib.hid (Blk.new w9 40 #[.int .i64 0,.int .i64 0,.slice none 0 0,.int .i64 0,.int .i64 0,.slice none 0 0,.int .i64 0,.int .i64 0,.slice none 0 0])
       have LGB:=HM.out.size
       have HA:=Lib.hid ((Mod.refl (fun _=>False) w9).alloc (.cells #[.int .i64 0,.int .i64 0,.slice none 0 0,.int .i64 0,.int .i64 0,.slice none 0 0,.int .i64 0,.int .i64 0,.slice none 0 0] 40))
       have HM:=Lib.hid (HM.out.alloc (.cells #[.int .i64 0,.int .i64 0,.slice none 0 0,.int .i64 0,.int .i64 0,.slice none 0 0,.int .i64 0,.int .i64 0,.slice none 0 0] 40))
       have HF:=Lib.hid (HF.out.quiet HA.out)
       obtain ⟨zb,hzb⟩:∃ zb,zb = w9.heap.size:=⟨_,rfl⟩
       rw [← hzb] at HZ LGB ⊢
       clear hzb
       generalize w9.alloc (.cells #[.int .i64 0,.int .i64 0,.slice none 0 0,.int .i64 0,.int .i64 0,.slice none 0 0,.int .i64 0,.int .i64 0,.slice none 0 0] 40) = w9 at *
       refine hK _ _ (⟨HX17.out.1.keep HM.out (fun h=>h),HX17.out.2.keep HM.out (fun h=>h)⟩) ?_
       clear hK K
       refine planF_loud rfl rfl (fun K hK=>?_)
       rw [if_pos (by rfl)]
       refine wp_store_row 40 (.tmp 17) (.tmp 123) rfl zb (frV d q0 r0 q1 r1 q2 r2) rfl rfl 40 [.int .i64 0,.int .i64 0,.slice none 0 0,.int .i64 0,.int .i64 0,.slice none 0 0,.int .i64 0,.int .i64 0,.slice none 0 0] HZ.out rfl (by kernel_rfl) (by kernel_rfl) (fun w11 hb11 hm11=>?_)
       go_simp
       refine hK _ _ (⟨Blk.keep (Blk.keep HX17.out.1 HM.out (fun h=>h)) hm11 (Blk.ne_ (Blk.keep HX17.out.1 HM.out (fun h=>h)) HZ.out (by decide)),Blk.keep (Blk.keep HX17.out.2 HM.out (fun h=>h)) hm11 (fun e=>by have:=Blk.lt HX17.out.2;have e2:gb = zb:=e;omega)⟩) ?_
       clear hK K
       refine planF_still rfl rfl (fun K hK=>?_);go_simp;refine hK _ ?_;clear hK K
       refine planF_done ?_
       go_wp2_with fail
       go_meet
       exact ⟨rfl,zb,q0,r0,q1,r1,q2,r2,rfl,hb11,HF.out.mod hm11 (fun j e=>.inr ⟨40,_,e ▸ HZ.out,by decide⟩),LGB,HM.out.into hm11 (fun j e=>.inr (by have e2:j = zb:=e;omega))⟩
      ·go_simp
       have HZ:=Lib.hid (Blk.new w9 40 #[.int .i64 0,.int .i64 0,.slice none 0 0,.int .i64 0,.int .i64 0,.slice none 0 0,.int .i64 0,.int .i64 0,.slice none 0 0])
       have LGB:=HM.out.size
       have HA:=Lib.hid ((Mod.refl (fun _=>False) w9).alloc (.cells #[.int .i64 0,.int .i64 0,.slice none 0 0,.int .i64 0,.int .i64 0,.slice none 0 0,.int .i64 0,.int .i64 0,.slice none 0 0] 40))
       have HM:=Lib.hid (HM.out.alloc (.cells #[.int .i64 0,.int .i64 0,.slice none 0 0,.int .i64 0,.int .i64 0,.slice none 0 0,.int .i64 0,.int .i64 0,.slice none 0 0] 40))
       obtain ⟨zb,hzb⟩:∃ zb,zb = w9.heap.size:=⟨_,rfl⟩
       rw [← hzb] at HZ LGB ⊢
       clear hzb
       generalize w9.alloc (.cells #[.int .i64 0,.int .i64 0,.slice none 0 0,.int .i64 0,.int .i64 0,.slice none 0 0,.int .i64 0,.int .i64 0,.slice none 0 0] 40) = w9 at *
       refine hK _ _ (⟨HX17.out.1.keep HM.out (fun h=>h),HX17.out.2.keep HM.out (fun h=>h)⟩) ?_
       clear hK K
       refine planF_loud rfl rfl (fun K hK=>?_)
       go_simp
       refine (fDebFrame w9 _ d hd hsN e0 j0 e1 j1 e2 j2 X9.1 (HF9.out.quiet HM.out) q hq).mono ?_
       rintro e w9 ⟨p,rfl,⟨q0,r0,q1,r1,q2,r2,rfl,hfr⟩,hm9⟩
       have HF:=Lib.hid (hfr.down HM.out.size)
       have HM:=Lib.hid (HM.out.trans hm9)
       have HZ:=Lib.hid (HZ.out.keep hm9 (fun h=>h))
       dsimp only []
       refine hK _ _ (⟨HX17.out.1.keep HM.out (fun h=>h),HX17.out.2.keep HM.out (fun h=>h)⟩) ?_
       clear hK K hfr hm9
       refine planF_read (v:=.tuple #[.agg (frV d q0 r0 q1 r1 q2 r2).toArray,.int .i64 0]) rfl rfl rfl (fun _ _=>rfl) (fun K hK=>?_);go_simp;refine hK _ ?_;clear hK K
       refine planF_read (v:=.agg (frV d q0 r0 q1 r1 q2 r2).toArray) rfl rfl rfl (fun _ _=>rfl) (fun K hK=>?_);go_simp;refine hK _ ?_;clear hK K
       refine planF_read (v:=.int .i64 0) rfl rfl rfl (fun _ _=>rfl) (fun K hK=>?_);go_simp;refine hK _ ?_;clear hK K
       refine planF_loud rfl rfl (fun K hK=>?_)
       rw [if_pos (by rfl)]
       refine wp_store_row 40 (.tmp 17) (.tmp 123) rfl zb (frV d q0 r0 q1 r1 q2 r2) rfl rfl 40 [.int .i64 0,.int .i64 0,.slice none 0 0,.int .i64 0,.int .i64 0,.slice none 0 0,.int .i64 0,.int .i64 0,.slice none 0 0] HZ.out rfl (by kernel_rfl) (by kernel_rfl) (fun w11 hb11 hm11=>?_)
       go_simp
       refine hK _ _ (⟨Blk.keep (Blk.keep HX17.out.1 HM.out (fun h=>h)) hm11 (Blk.ne_ (Blk.keep HX17.out.1 HM.out (fun h=>h)) HZ.out (by decide)),Blk.keep (Blk.keep HX17.out.2 HM.out (fun h=>h)) hm11 (fun e=>by have:=Blk.lt HX17.out.2;have e2:gb = zb:=e;omega)⟩) ?_
       clear hK K
       refine planF_still rfl rfl (fun K hK=>?_);go_simp;refine hK _ ?_;clear hK K
       refine planF_done ?_
       go_wp2_with fail
       go_meet
       exact ⟨rfl,zb,q0,r0,q1,r1,q2,r2,rfl,hb11,HF.out.mod hm11 (fun j e=>.inr ⟨40,_,e ▸ HZ.out,by decide⟩),LGB,HM.out.into hm11 (fun j e=>.inr (by have e2:j = zb:=e;omega))⟩
    case rest=>
     obtain ⟨rfl,sb,s0,t0,s1,t1,s2,t2,rfl,hsb,hsf,lsb,hmy⟩:=hcut
     rename World=>wy
     obtain ⟨zc,zf⟩:=hsb.both
     unfold frV at zc
     have HY:=Lib.hid (And.intro (Blk.keep HX17.out.1 hmy (fun h=>h)) (And.intro hsb (And.intro hsf (And.intro (Blk.keep H11.out.1 hmy (fun h=>h)) (And.intro (H11.out.2.1.trans hmy) (H11.out.2.2.1.quiet hmy))))))
     have lw11:=H11.out.2.1.size
     clear hsb hsf hmy HX17 HF9
     go_upto_region 19 with (refine wpList_store_part rfl 40 (.tmp 128) (.tmp 126) rfl g 6 (frV d s0 t0 s1 t1 s2 t2) rfl rfl 46 _ HY.out.1 (by kernel_rfl) (by simp [frV]) (frV_one d s0 t0 s1 t1 s2 t2) ?_;intro w12 hb12 hm12;have HB12:=Lib.hid (And.intro hb12 hm12);clear hb12 hm12)
     have hxB:Blk w12 g 46 (rencV (d.W:Int) (d.H:Int) (G:Int) (q:Int) (tg:Int) (nu:Int) (frV d s0 t0 s1 t1 s2 t2)):=HB12.out.1
     clear zc zf
     obtain ⟨hG1,hG2⟩:=hG
     obtain ⟨Q2,hQ2⟩:∃ Q2,Q2 = newQ q tg G m11:=⟨_,rfl⟩
     obtain ⟨sh,hsh⟩:∃ sh,sh = tg / G:=⟨_,rfl⟩
     have hshl:sh ≤ 1048576:=by rw [hsh];exact Nat.le_trans (Nat.div_le_self _ _) ht
     have td1:(tg:Int).tdiv (G:Int) = (sh:Int):=by rw [Int.tdiv_eq_ediv_of_nonneg (by omega),hsh];exact (Int.natCast_ediv tg G).symm
     have HQ:Hid (Q2 = if 0 < tg then (if 5 * sh < 4 * m11 then min (q + 1) 31 else if 4 * m11 < 3 * sh then q - 1 else q) else q):=by show _ = _;rw [hQ2,hsh];rfl
     have HQQ:=Lib.hid hQ2
     have hG0:((G:Int) == 0) = false:=by simp;omega
     have hGn:¬ G = 0:=by omega
     have k2:w12.cell? ⟨g,2,none⟩ = some (.int .i64 (G:Int)):=hxB.cell 2
     have k4:w12.cell? ⟨g,4,none⟩ = some (.int .i64 (tg:Int)):=hxB.cell 4
     have HXB:=Lib.hid hxB
     clear hxB hQ2 hsh
     go_quiet (fail)
     have hx13:=Blk.keep HXB.out (Mod.drewN (Mod.refl (fun _=>False) w12) nq) (fun h=>h)
     have HM13:=Lib.hid (HB12.out.2.drewN nq)
     clear k2 k4 td1 HXB HB12
     generalize w12.drewN nq = w13 at *
     obtain ⟨bc,bf⟩:=hx13.both
     have bl:=hx13.lt
     have hc3:w13.cell? ⟨g,3,none⟩ = some (.int .i64 (q:Int)):=bc 3
     have hc4:w13.cell? ⟨g,4,none⟩ = some (.int .i64 (tg:Int)):=bc 4
     have HX13:=Lib.hid hx13
     clear hx13 bc
     go_upto_region 20 with (fail)
     go_cut [151] (fun v151 wx=>v151 = .bool (decide (0 < tg ∧ 5 * sh < 4 * m11)) ∧ w13 = wx)
     case first=>
      as_aux_lemma=>
       by_cases h1:0 < tg
       ·have d0:decide (0 < (tg:Int)) = true:=decide_eq_true (by omega)
        have n0:0 < tg:=h1
        by_cases h2:5 * sh < 4 * m11
        ·have d1:decide (5 * (sh:Int) < 4 * (m11:Int)) = true:=decide_eq_true (by omega)
         have hR:decide (0 < tg ∧ 5 * sh < 4 * m11) = true:=decide_eq_true ⟨h1,h2⟩
         have HR:=Lib.hid hR
         clear hR
         go_wp2_with fail
         go_meet
         exact ⟨by rw [HR.out],rfl⟩
        ·have d1:decide (5 * (sh:Int) < 4 * (m11:Int)) = false:=decide_eq_false (by omega)
         have hR:decide (0 < tg ∧ 5 * sh < 4 * m11) = false:=decide_eq_false (fun h=>h2 h.2)
         have HR:=Lib.hid hR
         clear hR
         go_wp2_with fail
         go_meet
         exact ⟨by rw [HR.out],rfl⟩
       ·have d0:decide (0 < (tg:Int)) = false:=decide_eq_false (by omega)
        have n0:¬ 0 < tg:=h1
        have hR:decide (0 < tg ∧ 5 * sh < 4 * m11) = false:=decide_eq_false (fun h=>h1 h.1)
        have HR:=Lib.hid hR
        clear hR
        go_wp2_with fail
        go_meet
        exact ⟨by rw [HR.out],rfl⟩
     case rest=>
     obtain ⟨rfl,rfl⟩:=hcut
     obtain ⟨bb,hbb⟩:∃ b,b = decide (0 < tg ∧ 5 * sh < 4 * m11):=⟨_,rfl⟩
     rw [← hbb]
     have HBB:=Lib.hid hbb
     clear hbb
     go_upto_if 151 with (fail)
     go_cut [] (fun wx=>Blk wx g 46 (rencV (d.W:Int) (d.H:Int) (G:Int) (Q2:Int) (tg:Int) (nu:Int) (frV d s0 t0 s1 t1 s2 t2)) ∧ Mod (· = g) w13 wx)
     case first=>
      as_aux_lemma=>
       by_cases h1:0 < tg
       ·have d0:decide (0 < (tg:Int)) = true:=decide_eq_true (by omega)
        have n0:0 < tg:=h1
        have HQ1:=Lib.hid (HQ.out.trans (if_pos h1))
        by_cases h2:5 * sh < 4 * m11
        ·obtain rfl:bb = true:=by rw [HBB.out];exact decide_eq_true ⟨h1,h2⟩
         have HQ2:=Lib.hid (HQ1.out.trans (if_pos h2))
         clear hc4
         go_wp2_with fail
         all_goals
          go_meet
          refine ⟨Blk.put HX13.out (i:=3) ?_,(Mod.refl (· = g) w13).setCell (p:=⟨g,3,none⟩) (.inl rfl) _⟩
          refine Eq.trans (b:=(rencV (d.W:Int) (d.H:Int) (G:Int) (q:Int) (tg:Int) (nu:Int) (frV d s0 t0 s1 t1 s2 t2)).setIfInBounds 3 (.int .i64 (Q2:Int))) (congrArg _ (congrArg (Value.int .i64) ?_)) rfl
          rw [HQ2.out]
          first | omega | (split <;> omega)
        ·obtain rfl:bb = false:=by rw [HBB.out];exact decide_eq_false (fun h=>h2 h.2)
         have HQ2:=Lib.hid (HQ1.out.trans (if_neg h2))
         by_cases h3:4 * m11 < 3 * sh
         ·have d2:decide (4 * (m11:Int) < 3 * (sh:Int)) = true:=decide_eq_true (by omega)
          have HQ3:=Lib.hid (HQ2.out.trans (if_pos h3))
          go_wp2_with fail
          all_goals
           go_meet
           refine ⟨Blk.put HX13.out (i:=3) ?_,(Mod.refl (· = g) w13).setCell (p:=⟨g,3,none⟩) (.inl rfl) _⟩
           refine Eq.trans (b:=(rencV (d.W:Int) (d.H:Int) (G:Int) (q:Int) (tg:Int) (nu:Int) (frV d s0 t0 s1 t1 s2 t2)).setIfInBounds 3 (.int .i64 (Q2:Int))) (congrArg _ (congrArg (Value.int .i64) ?_)) rfl
           rw [HQ3.out]
           first | omega | (split <;> omega)
         ·have d2:decide (4 * (m11:Int) < 3 * (sh:Int)) = false:=decide_eq_false (by omega)
          have HQ3:=Lib.hid (HQ2.out.trans (if_neg h3))
          go_wp2_with fail
          go_meet
          exact ⟨by rw [HQ3.out];exact HX13.out,Mod.refl _ _⟩
       ·have d0:decide (0 < (tg:Int)) = false:=decide_eq_false (by omega)
        have n0:¬ 0 < tg:=h1
        have HQ1:=Lib.hid (HQ.out.trans (if_neg h1))
        obtain rfl:bb = false:=by rw [HBB.out];exact decide_eq_false (fun h=>h1 h.1)
        go_wp2_with fail
        go_meet
        exact ⟨by rw [HQ1.out];exact HX13.out,Mod.refl _ _⟩
     case rest=>
      obtain ⟨hb,hm⟩:=hcut
      rename World=>w14
      clear hc3 hc4 bf bl HX13 HQ HBB
      as_aux_lemma=>
       obtain ⟨bc,bf⟩:=hb.both
       have bl:=hb.lt
       have hc5:w14.cell? ⟨g,5,none⟩ = some (.int .i64 (nu:Int)):=bc 5
       have hc2:w14.cell? ⟨g,2,none⟩ = some (.int .i64 (G:Int)):=bc 2
       obtain ⟨nn,hnn⟩:∃ nn,nn = newN nu G:=⟨_,rfl⟩
       have tm:((nu:Int) + 1).tmod (G:Int) = (nn:Int):=by
        rw [Int.tmod_eq_emod_of_nonneg (by omega),hnn]
        unfold newN
        split
        ·rw [Int.emod_eq_of_lt (by omega) (by omega)]
         omega
        ·have:(nu:Int) + 1 = (G:Int):=by omega
         rw [this,Int.emod_self]
         rfl
       have hnl:nn ≤ 64:=by rw [hnn];unfold newN;split <;> omega
       have HN:=Lib.hid hnn
       have H14:=Lib.hid (And.intro hb hm)
       clear hb hm bc hnn
       go_upto_region 24 with (fail)
       refine wp_region_plan [14] [] [0,1,2,3,4,5,6,7,8,9,10,11,12,13,14] (by kernel_rfl) (by kernel_rfl) (fun _ _ _ d _ h=>by cases d <;> exact h) ?_
       iterate 14 (refine plan_still rfl rfl (fun K hK=>?_);go_simp;refine hK _ ?_;clear hK K)
       refine plan_loud rfl rfl (fun K hK=>?_);go_simp;refine hK _ _ ?_;clear hK K
       refine plan_done ?_
       have wn:IntKind.i64.wrap ((nu:Int) + 1) = (nu:Int) + 1:=IntWalk.i64_in _ ⟨by omega,by omega⟩
       rw [wn,tm]
       have hb15:=(Blk.put H14.out.1 (i:=5) (u:=.int .i64 (nn:Int)) (cs':=rencV (d.W:Int) (d.H:Int) (G:Int) (Q2:Int) (tg:Int) (nn:Int) (frV d s0 t0 s1 t1 s2 t2)) rfl).drew
       have hm15:Mod (· = g) wy ((w14.setCell ⟨g,5,none⟩ (.int .i64 (nn:Int))).drew):=HM13.out.trans ((H14.out.2.setCell (p:=⟨g,5,none⟩) (.inl rfl) _).drew)
       clear hc5 hc2 tm wn bf bl H14 HM13
       generalize (w14.setCell ⟨g,5,none⟩ (.int .i64 (nn:Int))).drew = w15 at *
       have kg:∀ j,j = g → wy.heap.size ≤ j ∨ ∃ t cs,Blk wy j t cs ∧ t ≠ 5:=fun j e=>.inr ⟨46,_,e ▸ HY.out.1,by decide⟩
       have hsb:=HY.out.2.1.keep hm15 (Blk.ne_ HY.out.2.1 HY.out.1 (by decide))
       have hsf:=HY.out.2.2.1.mod hm15 kg
       have hrr:=HY.out.2.2.2.1.keep hm15 (Blk.ne_ HY.out.2.2.2.1 HY.out.1 (by decide))
       have hmm:Mod (· = g) w w15:=(HY.out.2.2.2.2.1.mono (fun _ h=>h.elim)).trans hm15
       have hown:=HY.out.2.2.2.2.2.mod hm15 (fun j e hj=>HY.out.2.2.2.2.2.apart HY.out.1 (by decide) (by have e2:j = g:=hj;rw [← e2];exact e))
       obtain ⟨zc,zf⟩:=hsb.both
       unfold frV at zc
       have H15:=Lib.hid (And.intro hb15 (And.intro hsf (And.intro hrr (And.intro hmm hown))))
       clear hb15 hm15 kg hsb hsf hrr hmm hown
       go_upto_region 25 with (fail)
       refine wp_region_plan [3] [] [0,1,2,3,4] (by kernel_rfl) (by kernel_rfl) (fun _ _ _ d _ h=>by cases d <;> exact h) ?_
       iterate 3 (refine plan_still rfl rfl (fun K hK=>?_);go_simp;refine hK _ ?_;clear hK K)
       refine plan_loud rfl rfl (fun K hK=>?_)
       rw [if_pos (by rfl)]
       refine wp_store_row 40 (.tmp 5) (.tmp 198) rfl (w.heap.size + 1) (frV d s0 t0 s1 t1 s2 t2) rfl rfl 40 zeroFr H15.out.2.2.1.drew rfl (by kernel_rfl) (by kernel_rfl) (fun w16 hb16 hm16=>?_)
       go_simp
       refine hK _ _ ?_
       clear hK K zc zf
       refine plan_still rfl rfl (fun K hK=>?_);go_simp;refine hK _ ?_;clear hK K
       refine plan_done ?_
       have HB16:=Lib.hid (And.intro hb16 hm16)
       clear hb16 hm16
       go_wp2_with fail
       obtain ⟨rc,rf⟩:=HB16.out.1.both
       unfold frV at rc
       have hE:eframe d fr ahd nu q = (h0 ++ X9.2.code,smPix q d X9.1):=by unfold eframe;rw [← H11.out.2.2.2.2,← HHD.out]
       refine bodyPost_ret (v:=.tuple #[.slice A11 m11 c11,.agg (frV d s0 t0 s1 t1 s2 t2).toArray,.int .i64 0]) (by simp [results,Tryz.results17,go_sem,rc,frV]) rfl ?_
       rw [hE]
       have hm16:=HB16.out.2
       have lq:w.heap.size ≤ w.heap.size + 1:=by omega
       have kr:∀ j,j = w.heap.size + 1 → w15.drew.heap.size ≤ j ∨ ∃ t cs,Blk w15.drew j t cs ∧ t ≠ 5:=fun j e=>.inr ⟨40,_,e ▸ H15.out.2.2.1.drew,by decide⟩
       refine ⟨.slice A11 m11 c11,s0,t0,s1,t1,s2,t2,rfl,?_,?_,?_,?_⟩
       ·exact (H15.out.2.2.2.2.quiet ((Mod.refl (fun _=>False) w15).drew)).mod hm16 (fun j e hj=>(H15.out.2.2.2.2.quiet ((Mod.refl (fun _=>False) w15).drew)).apart H15.out.2.2.1.drew (by decide) (by have e2:j = w.heap.size + 1:=hj;rw [← e2];exact e))
       ·exact ((H15.out.2.1.quiet ((Mod.refl (fun _=>False) w15).drew)).mod hm16 kr).fb_down lw11
       ·dsimp only
        rw [← H11.out.2.2.2.1,← HQQ.out,← HN.out]
        exact (H15.out.1.drew).keep hm16 (Blk.ne_ H15.out.1.drew H15.out.2.2.1.drew (by decide))
       ·exact (H15.out.2.2.2.1.drew).into hm16 (fun j e=>.inr (by have e2:j = w.heap.size + 1:=e;omega))
end Go.Proofs.YtmkopcojnibhlaaGreatDoor
