/-
  encoder: a frame is coded (the walk).
-/
import Derived.Test.YthednemlahioeaaGreatDoorH26
namespace Go.Proofs.YthednemlahioeaaGreatDoor
open Go.RowKit
set_option maxRecDepth 100000
set_option maxHeartbeats 8000000
theorem encFrame (w:World) (g:Nat) (G q tg nu:Nat) (d:Dim) (hd:d.Ok) (hW64:d.W ≤ 64) (hH64:d.H ≤ 64) (b0 b1 b3 b4 b6 b7:Int) (B0 B1 B2:Option Addr) (m0 d0 m1 d1 m2 d2:Nat) (al:List Value) (hal:al = [.int .i64 b0,.int .i64 b1,.slice B0 m0 d0,.int .i64 b3,.int .i64 b4,.slice B1 m1 d1,.int .i64 b6,.int .i64 b7,.slice B2 m2 d2]) (hG:1 ≤ G ∧ G ≤ 64) (hq:q ≤ 31) (ht:tg ≤ 1048576) (hnu:nu < G)
  (hx:Blk w g 250 (encV (d.W:Int) (d.H:Int) (G:Int) (q:Int) (tg:Int) (nu:Int) al)) (he:EnvP w) (ahd:Pix) (hah:nu ≠ 0 → FrIn w d al ahd)
  (A0 A1 A2:Option Addr) (c0 c1 c2:Nat) (fr:Pix) (hfr:FrIn w d (flV d A0 A1 A2 c0 c1 c2) fr)
  (hWh:∀ w',Mod (fun _=>False) w w' → Calls Tryz.prog 60 #[.agg (flV d A0 A1 A2 c0 c1 c2).toArray] w' fun e w''=>e = .returned (.bool true) ∧ Mod (fun _=>False) w' w'') :
  Calls Tryz.prog 97 #[.pointer (some ⟨g,0,none⟩),.agg (flV d A0 A1 A2 c0 c1 c2).toArray] w (EFrPost w g G q tg nu d (eframe d fr ahd nu q)):=by
 obtain ⟨K,hK⟩:∃ K:Bool,K = ((nu:Int) == 0):=⟨_,rfl⟩
 have hKn:(nu == 0) = K:=by rw [hK];cases nu <;> rfl
 have hfits:hdrFits K (nu:Int) (q:Int) (d.W:Int) (d.H:Int) (G:Int) = true:=by
  have a:=hd.sides
  have b:=hd.w16
  have c:=hd.h16
  unfold sidesB at a
  rw [decide_eq_true_eq] at a
  unfold hdrFits seqRight
  rw [hK]
  simp only [Bool.and_eq_true,decide_eq_true_eq,beq_self_eq_true,and_true]
  omega
 have hxl:=hx.lt
 have h0:=(((Sat.nil (fun _=>False) w).alloc 58 (flV d A0 A1 A2 c0 c1 c2).toArray rfl).alloc (g:=w.heap.size + 1) 58 zeroFr.toArray (by simp)).alloc (g:=w.heap.size + 2) 40 #[.int .i64 (d.W:Int),.int .i64 (d.H:Int),.int .i64 (G:Int)] (by simp)
 have H0:=Lib.hid (And.intro hx (And.intro hah (And.intro hfr (And.intro hWh (And.intro hd (And.intro he (And.intro hal (And.intro hfits (And.intro hKn hG)))))))))
 obtain ⟨bc,bf⟩:=hx.both
 have x0:w.cell? ⟨g,0,none⟩ = some (.int .i64 (d.W:Int)):=bc 0
 have x1:w.cell? ⟨g,1,none⟩ = some (.int .i64 (d.H:Int)):=bc 1
 have x2:w.cell? ⟨g,2,none⟩ = some (.int .i64 (G:Int)):=bc 2
 have HS0:=Lib.hid h0
 have HK:=Lib.hid hK
 clear h0 hah hfr hWh hd he hal hx bc bf hfits hKn hK hG
 unfold flV
 go_enter Tryz.func97,Tryz.ntmps97
 go_upto_region 4 with (fail)
 have hS1:=HS0.out
 unfold flV zeroFr at hS1
 generalize (((w.alloc (.cells #[.int .i64 (d.W:Int),.int .i64 (d.H:Int),.slice A0 d.nY c0,.int .i64 (d.W2:Int),.int .i64 (d.H2:Int),.slice A1 d.nC c1,.int .i64 (d.W2:Int),.int .i64 (d.H2:Int),.slice A2 d.nC c2] 58)).alloc (.cells #[.int .i64 0,.int .i64 0,.slice none 0 0,.int .i64 0,.int .i64 0,.slice none 0 0,.int .i64 0,.int .i64 0,.slice none 0 0] 58)).alloc (.cells #[.int .i64 (d.W:Int),.int .i64 (d.H:Int),.int .i64 (G:Int)] 40)) = w1 at hS1 ⊢
 obtain ⟨f0,ff⟩:=(hS1.own_ 2 rfl).both
 have fl:=(hS1.own_ 2 rfl).lt
 dsimp only at f0 ff fl
 clear x0 x1 x2
 have HS1:=Lib.hid hS1
 clear hS1 HS0
 go_wp2_with fail
 refine (H0.out.2.2.2.1 _ HS1.out.mod).mono ?_
 rintro e w2 ⟨rfl,hm2⟩
 have hS2:=Sat.after hm2 HS1.out
 clear f0 ff fl hm2 HS1
 obtain ⟨f0,ff⟩:=(hS2.own_ 2 rfl).both
 have fl:=(hS2.own_ 2 rfl).lt
 obtain ⟨s0,sf⟩:=(hS2.own_ 0 rfl).both
 have sl:=(hS2.own_ 0 rfl).lt
 dsimp only at f0 ff fl s0 sf sl
 have fw:w2.cell? ⟨w.heap.size,0,none⟩ = some (.int .i64 (d.W:Int)):=f0 0
 have fh:w2.cell? ⟨w.heap.size,1,none⟩ = some (.int .i64 (d.H:Int)):=f0 1
 have sw:w2.cell? ⟨w.heap.size + 1 + 1,0,none⟩ = some (.int .i64 (d.W:Int)):=s0 0
 have sh:w2.cell? ⟨w.heap.size + 1 + 1,1,none⟩ = some (.int .i64 (d.H:Int)):=s0 1
 have sl':w.heap.size + 1 + 1 < w2.heap.size:=sl
 have sf':∀ i,w2.frozen? ⟨w.heap.size + 1 + 1,i,none⟩ = false:=sf
 have HS2:=Lib.hid hS2
 clear hS2 f0 s0 sl sf
 go_upto_region 6 with (fail)
 have hx2:=H0.out.1.keep HS2.out.mod (fun h=>h)
 obtain ⟨bc,bf⟩:=hx2.both
 have xl:=hx2.lt
 have x3:w2.cell? ⟨g,3,none⟩ = some (.int .i64 (q:Int)):=bc 3
 have x5:w2.cell? ⟨g,5,none⟩ = some (.int .i64 (nu:Int)):=bc 5
 have s2:w2.cell? ⟨w.heap.size + 1 + 1,2,none⟩ = some (.int .i64 (G:Int)):=(HS2.out.own_ 0 rfl).cell 2
 clear hx2 bc fw fh ff fl
 have HH:=Lib.hid H0.out.2.2.2.2.2.2.2.1
 refine wp_region_plan [15] [] [0,1,2,3,4,5,6,7,8,9,10,11,12,13,14,15,16,17,18,19,20] (by kernel_rfl) (by kernel_rfl) (fun _ _ _ d _ h=>by cases d <;> exact h) ?_
 iterate 15 (refine plan_still rfl rfl (fun K hK=>?_);go_simp;refine hK _ ?_;clear hK K)
 refine plan_loud rfl rfl (fun K1 hK1=>?_)
 go_simp
 have eK:((nu:Int) == 0) = K:=HK.out.symm
 rw [eK]
 refine (synHeader _ K nu q (d.W:Int) (d.H:Int) (G:Int) HH.out (by have:=H0.out.2.2.2.2.2.2.2.2.2;omega) hq).mono ?_
 rintro e w3 ⟨hg,rfl,hb3,hg3,hm3⟩
 have hS3:=Sat.after hm3 HS2.out.drew
 have HB3:=Lib.hid (And.intro hS3 (And.intro hb3 hg3))
 clear hm3 hS3 hb3 hg3 x3 x5 s2 bf xl sf' sl' sw sh
 dsimp only []
 refine hK1 _ _ ?_
 clear hK1 K1
 iterate 5 (refine plan_still rfl rfl (fun K hK=>?_);go_simp;refine hK _ ?_;clear hK K)
 refine plan_done ?_
 clear eK
 obtain ⟨hl,hhl⟩:∃ hl,hl = (hdrB K nu q).length:=⟨_,rfl⟩
 rw [← hhl]
 have HL:=Lib.hid hhl
 clear hhl
 obtain ⟨s0,sf⟩:=(HB3.out.1.own_ 0 rfl).both
 have sl:=(HB3.out.1.own_ 0 rfl).lt
 dsimp only at s0 sf sl
 have sw:w3.cell? ⟨w.heap.size + 1 + 1,0,none⟩ = some (.int .i64 (d.W:Int)):=s0 0
 have sh:w3.cell? ⟨w.heap.size + 1 + 1,1,none⟩ = some (.int .i64 (d.H:Int)):=s0 1
 have sl':w.heap.size + 1 + 1 < w3.heap.size:=sl
 have sf':∀ i,w3.frozen? ⟨w.heap.size + 1 + 1,i,none⟩ = false:=sf
 clear s0 sf sl
 go_wp2_with fail
 refine (pBlankE _ d H0.out.2.2.2.2.1).mono ?_
 rintro e w4 ⟨p,rfl,⟨gy,gu,gv,rfl,hfa,l1,l2,l3⟩,hm4⟩
 clear sw sh sl' sf'
 unfold frameV
 go_upto_region 12 with (fail)
 have hS4:=(Sat.after hm4 HB3.out.1).alloc 58 (frameV d gy gu gv).toArray rfl
 have h3s:w.heap.size ≤ w3.heap.size:=HB3.out.1.mod.size
 have h4s:w3.heap.size ≤ w4.heap.size:=hm4.size
 have fa1:gy < w4.heap.size:=hfa.by_.lt
 have fa2:gu < w4.heap.size:=hfa.bu.lt
 have fa3:gv < w4.heap.size:=hfa.bv.lt
 have hfa5:=hfa.quiet ((Mod.refl (fun _=>False) w4).alloc (.cells (frameV d gy gu gv).toArray 58))
 have hm35:=hm4.alloc (.cells (frameV d gy gu gv).toArray 58)
 have hb5:=(HB3.out.2.1.keep hm4 (fun h=>h)).alloc (.cells (frameV d gy gu gv).toArray 58)
 obtain ⟨bb,hbb⟩:∃ bb,bb = w4.heap.size:=⟨_,rfl⟩
 unfold frameV at hS4 hfa5 hb5 hm35
 rw [← hbb] at hS4 ⊢
 generalize w4.alloc (.cells #[.int .i64 (d.W:Int),.int .i64 (d.H:Int),.slice (some ⟨gy,0,none⟩) d.nY d.nY,.int .i64 (d.W2:Int),.int .i64 (d.H2:Int),.slice (some ⟨gu,0,none⟩) d.nC d.nC,.int .i64 (d.W2:Int),.int .i64 (d.H2:Int),.slice (some ⟨gv,0,none⟩) d.nC d.nC] 58) = w5 at hS4 hfa5 hb5 hm35 ⊢
 have hx5:=H0.out.1.keep hS4.mod (fun h=>h)
 have hO:Old w3 d K (q:Int) (flV d A0 A1 A2 c0 c1 c2) fr al ahd:=by
  have hm3:=HB3.out.1.mod
  refine ⟨H0.out.2.2.2.2.2.1.quiet hm3,H0.out.2.2.2.2.1,⟨by omega,by omega⟩,H0.out.2.2.1.quiet hm3,by rw [H0.out.2.2.2.2.2.2.1];rfl,fun hk=>(H0.out.2.1 ?_).quiet hm3⟩
  have:=H0.out.2.2.2.2.2.2.2.2.1
  rw [hk] at this
  simpa using this
 have hal':=H0.out.2.2.2.2.2.2.1
 have HO:=Lib.hid hO
 have HAL:=Lib.hid hal'
 have HT:Hid (Tri w5 g w.heap.size bb (encV (d.W:Int) (d.H:Int) (G:Int) (q:Int) (tg:Int) (nu:Int) [.int .i64 b0,.int .i64 b1,.slice B0 m0 d0,.int .i64 b3,.int .i64 b4,.slice B1 m1 d1,.int .i64 b6,.int .i64 b7,.slice B2 m2 d2]) #[.int .i64 (d.W:Int),.int .i64 (d.H:Int),.slice A0 d.nY c0,.int .i64 (d.W2:Int),.int .i64 (d.H2:Int),.slice A1 d.nC c1,.int .i64 (d.W2:Int),.int .i64 (d.H2:Int),.slice A2 d.nC c2] #[.int .i64 (d.W:Int),.int .i64 (d.H:Int),.slice (some ⟨gy,0,none⟩) d.nY d.nY,.int .i64 (d.W2:Int),.int .i64 (d.H2:Int),.slice (some ⟨gu,0,none⟩) d.nC d.nC,.int .i64 (d.W2:Int),.int .i64 (d.H2:Int),.slice (some ⟨gv,0,none⟩) d.nC d.nC]):=⟨by rw [← hal'];exact hx5,hS4.own_ 3 rfl,hS4.own_ 0 rfl⟩
 have l5:w3.heap.size ≤ bb:=by omega
 have l6:gy < bb ∧ gu < bb ∧ gv < bb:=by omega
 clear hbb
 have HI:=Lib.hid (And.intro hS4 (And.intro hfa5 (And.intro hb5 (And.intro hm35 (And.intro h3s h4s)))))
 clear hS4 hfa5 hb5 hm35 hx5 hO hal' hm4
 go_cut [11] (fun v11 wx=>EFrC1 w3 bb K (q:Int) d (flV d A0 A1 A2 c0 c1 c2) al gy gu gv v11 wx)
 case first=>
  refine wp_region_planF [10,15,17,18,19,21,22] [0,1,2,3,4,5,6,7,8,9,11,12,13,14,16,20] (PTree.after [0,1,2,3,4,5,6,7,8,9,11,12,13,14,16] (.fork 10 21 (.fork 15 21 (.fork 17 21 (.fork 18 21 (.fork 19 21 (.seq 20 (.seq 21 (.seq 22 .nil))) (.seq 19 (.seq 20 (.seq 22 .nil)))) (.seq 18 (.seq 19 (.seq 20 (.seq 22 .nil))))) (.seq 17 (.seq 18 (.seq 19 (.seq 20 (.seq 22 .nil)))))) (.seq 15 (.seq 17 (.seq 18 (.seq 19 (.seq 20 (.seq 22 .nil))))))) (.seq 10 (.seq 15 (.seq 17 (.seq 18 (.seq 19 (.seq 20 (.seq 22 .nil))))))))) (fun w'=>Tri w' g w.heap.size bb (encV (d.W:Int) (d.H:Int) (G:Int) (q:Int) (tg:Int) (nu:Int) [.int .i64 b0,.int .i64 b1,.slice B0 m0 d0,.int .i64 b3,.int .i64 b4,.slice B1 m1 d1,.int .i64 b6,.int .i64 b7,.slice B2 m2 d2]) #[.int .i64 (d.W:Int),.int .i64 (d.H:Int),.slice A0 d.nY c0,.int .i64 (d.W2:Int),.int .i64 (d.H2:Int),.slice A1 d.nC c1,.int .i64 (d.W2:Int),.int .i64 (d.H2:Int),.slice A2 d.nC c2] #[.int .i64 (d.W:Int),.int .i64 (d.H:Int),.slice (some ⟨gy,0,none⟩) d.nY d.nY,.int .i64 (d.W2:Int),.int .i64 (d.H2:Int),.slice (some ⟨gu,0,none⟩) d.nC d.nC,.int .i64 (d.W2:Int),.int .i64 (d.H2:Int),.slice (some ⟨gv,0,none⟩) d.nC d.nC]) (by kernel_rfl) (by kernel_rfl) (fun _ _ _ d _ h=>by cases d <;> exact h) HT.out.drew ?_
  refine planF_read (v:=.pointer (some ⟨g,0,none⟩)) rfl rfl rfl (fun _ _=>rfl) (fun K hK=>?_);go_simp;refine hK _ ?_;clear hK K
  refine planF_read (v:=.pointer (some ⟨g,0,none⟩)) rfl rfl rfl (fun _ _=>rfl) (fun K hK=>?_);go_simp;refine hK _ ?_;clear hK K
  refine planF_read (v:=.pointer (some ⟨g,3,none⟩)) rfl rfl rfl (fun _ _=>rfl) (fun K hK=>?_);go_simp;refine hK _ ?_;clear hK K
  refine planF_one rfl rfl _ _ rfl rfl g 3 rfl (.int .i64 (q:Int)) _ (fun w' hS=>hS.x.cell 3) Tryz.underlying3 rfl (fun K hK=>?_);go_simp;refine hK _ ?_;clear hK K
  refine planF_read (v:=.pointer (some ⟨g,0,none⟩)) rfl rfl rfl (fun _ _=>rfl) (fun K hK=>?_);go_simp;refine hK _ ?_;clear hK K
  refine planF_read (v:=.pointer (some ⟨g,0,none⟩)) rfl rfl rfl (fun _ _=>rfl) (fun K hK=>?_);go_simp;refine hK _ ?_;clear hK K
  refine planF_read (v:=.pointer (some ⟨g,5,none⟩)) rfl rfl rfl (fun _ _=>rfl) (fun K hK=>?_);go_simp;refine hK _ ?_;clear hK K
  refine planF_one rfl rfl _ _ rfl rfl g 5 rfl (.int .i64 (nu:Int)) _ (fun w' hS=>hS.x.cell 5) Tryz.underlying3 rfl (fun K hK=>?_);go_simp;refine hK _ ?_;clear hK K
  refine planF_read (v:=.bool ((nu:Int) == 0)) rfl rfl rfl (fun _ _=>rfl) (fun K hK=>?_);go_simp;refine hK _ ?_;clear hK K
  refine planF_load rfl rfl _ _ rfl rfl w.heap.size 0 rfl [.int .i64 (d.W:Int),.int .i64 (d.H:Int),.slice A0 d.nY c0,.int .i64 (d.W2:Int),.int .i64 (d.H2:Int),.slice A1 d.nC c1,.int .i64 (d.W2:Int),.int .i64 (d.H2:Int),.slice A2 d.nC c2] _ (fun w' hS=>hS.f.range 0 _ rfl) Tryz.underlying58 rfl (by kernel_rfl) (fun K hK=>?_);go_simp;refine hK _ ?_;clear hK K
  refine planF_read (v:=.pointer (some ⟨g,0,none⟩)) rfl rfl rfl (fun _ _=>rfl) (fun K hK=>?_);go_simp;refine hK _ ?_;clear hK K
  refine planF_read (v:=.pointer (some ⟨g,0,none⟩)) rfl rfl rfl (fun _ _=>rfl) (fun K hK=>?_);go_simp;refine hK _ ?_;clear hK K
  refine planF_read (v:=.pointer (some ⟨g,6,none⟩)) rfl rfl rfl (fun _ _=>rfl) (fun K hK=>?_);go_simp;refine hK _ ?_;clear hK K
  refine planF_load rfl rfl _ _ rfl rfl g 6 rfl [.int .i64 b0,.int .i64 b1,.slice B0 m0 d0,.int .i64 b3,.int .i64 b4,.slice B1 m1 d1,.int .i64 b6,.int .i64 b7,.slice B2 m2 d2] _ (fun w' hS=>hS.x.range 6 _ rfl) Tryz.underlying58 rfl (by kernel_rfl) (fun K hK=>?_);go_simp;refine hK _ ?_;clear hK K
  refine planF_load rfl rfl _ _ rfl rfl bb 0 rfl [.int .i64 (d.W:Int),.int .i64 (d.H:Int),.slice (some ⟨gy,0,none⟩) d.nY d.nY,.int .i64 (d.W2:Int),.int .i64 (d.H2:Int),.slice (some ⟨gu,0,none⟩) d.nC d.nC,.int .i64 (d.W2:Int),.int .i64 (d.H2:Int),.slice (some ⟨gv,0,none⟩) d.nC d.nC] _ (fun w' hS=>hS.b.range 0 _ rfl) Tryz.underlying58 rfl (by kernel_rfl) (fun K hK=>?_);go_simp;refine hK _ ?_;clear hK K
  have HM:=Lib.hid ((Mod.refl (fun _=>False) w5).drew)
  generalize w5.drew = w6 at HM ⊢
  refine planF_fork rfl rfl (fun K hK=>?_) (fun K hK=>?_)
  ·go_simp
   refine (ePlanes _ _ _ _ _ _ _ _ _ _ _ _ _ _ _ _).mono ?_
   rintro e w6 ⟨rfl,hm6⟩
   have HM:=Lib.hid (HM.out.trans hm6)
   dsimp only []
   refine hK _ _ (HT.out.quiet HM.out) ?_
   clear hK K hm6
   refine planF_fork rfl rfl (fun K hK=>?_) (fun K hK=>?_)
   ·go_simp
    refine (ePlanes _ _ _ _ _ _ _ _ _ _ _ _ _ _ _ _).mono ?_
    rintro e w6 ⟨rfl,hm6⟩
    have HM:=Lib.hid (HM.out.trans hm6)
    dsimp only []
    refine hK _ _ (HT.out.quiet HM.out) ?_
    clear hK K hm6
    refine planF_fork rfl rfl (fun K hK=>?_) (fun K hK=>?_)
    ·go_simp
     refine (ePlanes _ _ _ _ _ _ _ _ _ _ _ _ _ _ _ _).mono ?_
     rintro e w6 ⟨rfl,hm6⟩
     have HM:=Lib.hid (HM.out.trans hm6)
     dsimp only []
     refine hK _ _ (HT.out.quiet HM.out) ?_
     clear hK K hm6
     refine planF_fork rfl rfl (fun K hK=>?_) (fun K hK=>?_)
     ·go_simp
      refine (bNew _).mono ?_
      rintro e w6 ⟨bk,rfl,hbk,lbk,hm6⟩
      have HBK:=Lib.hid hbk
      have LBK:=Nat.le_trans HM.out.size lbk
      clear hbk lbk
      have HM:=Lib.hid (HM.out.trans hm6)
      dsimp only []
      refine hK _ _ (HT.out.quiet HM.out) ?_
      clear hK K hm6
      refine planF_fork rfl rfl (fun K hK=>?_) (fun K hK=>?_)
      ·go_simp
       refine (eNew _).mono ?_
       rintro e w6 ⟨g2,v2,rfl,hea,lg2,lv2,hm6⟩
       have HBK:=Lib.hid (HBK.out.keep hm6 (fun h=>h))
       have HEN:=Lib.hid hea
       have LG2:=Nat.le_trans HM.out.size lg2
       have LV2:=Lib.hid (fun j hj=>Nat.le_trans HM.out.size (lv2 j hj))
       clear hea lg2 lv2
       have HM:=Lib.hid (HM.out.trans hm6)
       dsimp only []
       refine hK _ _ (HT.out.quiet HM.out) ?_
       clear hK K hm6
       refine planF_read (v:=.agg #[.int .i64 (q:Int),.bool ((nu:Int) == 0),.int .i64 (d.W:Int),.int .i64 (d.H:Int),.slice A0 d.nY c0,.int .i64 (d.W2:Int),.int .i64 (d.H2:Int),.slice A1 d.nC c1,.int .i64 (d.W2:Int),.int .i64 (d.H2:Int),.slice A2 d.nC c2,.int .i64 b0,.int .i64 b1,.slice B0 m0 d0,.int .i64 b3,.int .i64 b4,.slice B1 m1 d1,.int .i64 b6,.int .i64 b7,.slice B2 m2 d2,.int .i64 (d.W:Int),.int .i64 (d.H:Int),.slice (some ⟨gy,0,none⟩) d.nY d.nY,.int .i64 (d.W2:Int),.int .i64 (d.H2:Int),.slice (some ⟨gu,0,none⟩) d.nC d.nC,.int .i64 (d.W2:Int),.int .i64 (d.H2:Int),.slice (some ⟨gv,0,none⟩) d.nC d.nC,.pointer (some ⟨bk,0,none⟩),.pointer (some ⟨g2,0,none⟩)]) rfl rfl rfl (fun _ _=>by kernel_rfl) (fun K hK=>?_);go_simp;refine hK _ ?_;clear hK K
       refine planF_loud rfl rfl (fun K hK=>?_)
       go_simp
       have HZ:=Lib.hid (Blk.new w6 258 #[.int .i64 0,.bool false,.int .i64 0,.int .i64 0,.slice none 0 0,.int .i64 0,.int .i64 0,.slice none 0 0,.int .i64 0,.int .i64 0,.slice none 0 0,.int .i64 0,.int .i64 0,.slice none 0 0,.int .i64 0,.int .i64 0,.slice none 0 0,.int .i64 0,.int .i64 0,.slice none 0 0,.int .i64 0,.int .i64 0,.slice none 0 0,.int .i64 0,.int .i64 0,.slice none 0 0,.int .i64 0,.int .i64 0,.slice none 0 0,.pointer none,.pointer none])
       have LCB:=HM.out.size
       have HM:=Lib.hid (HM.out.alloc (.cells #[.int .i64 0,.bool false,.int .i64 0,.int .i64 0,.slice none 0 0,.int .i64 0,.int .i64 0,.slice none 0 0,.int .i64 0,.int .i64 0,.slice none 0 0,.int .i64 0,.int .i64 0,.slice none 0 0,.int .i64 0,.int .i64 0,.slice none 0 0,.int .i64 0,.int .i64 0,.slice none 0 0,.int .i64 0,.int .i64 0,.slice none 0 0,.int .i64 0,.int .i64 0,.slice none 0 0,.int .i64 0,.int .i64 0,.slice none 0 0,.pointer none,.pointer none] 258))
       have HBK:=Lib.hid (HBK.out.alloc (.cells #[.int .i64 0,.bool false,.int .i64 0,.int .i64 0,.slice none 0 0,.int .i64 0,.int .i64 0,.slice none 0 0,.int .i64 0,.int .i64 0,.slice none 0 0,.int .i64 0,.int .i64 0,.slice none 0 0,.int .i64 0,.int .i64 0,.slice none 0 0,.int .i64 0,.int .i64 0,.slice none 0 0,.int .i64 0,.int .i64 0,.slice none 0 0,.int .i64 0,.int .i64 0,.slice none 0 0,.int .i64 0,.int .i64 0,.slice none 0 0,.pointer none,.pointer none] 258))
       have HEN:=Lib.hid (HEN.out.quiet ((Mod.refl (fun _=>False) w6).alloc (.cells #[.int .i64 0,.bool false,.int .i64 0,.int .i64 0,.slice none 0 0,.int .i64 0,.int .i64 0,.slice none 0 0,.int .i64 0,.int .i64 0,.slice none 0 0,.int .i64 0,.int .i64 0,.slice none 0 0,.int .i64 0,.int .i64 0,.slice none 0 0,.int .i64 0,.int .i64 0,.slice none 0 0,.int .i64 0,.int .i64 0,.slice none 0 0,.int .i64 0,.int .i64 0,.slice none 0 0,.int .i64 0,.int .i64 0,.slice none 0 0,.pointer none,.pointer none] 258)))
       obtain ⟨cb,hcb⟩:∃ cb,cb = w6.heap.size:=⟨_,rfl⟩
       rw [← hcb] at HZ LCB ⊢
       clear hcb
       generalize w6.alloc (.cells #[.int .i64 0,.bool false,.int .i64 0,.int .i64 0,.slice none 0 0,.int .i64 0,.int .i64 0,.slice none 0 0,.int .i64 0,.int .i64 0,.slice none 0 0,.int .i64 0,.int .i64 0,.slice none 0 0,.int .i64 0,.int .i64 0,.slice none 0 0,.int .i64 0,.int .i64 0,.slice none 0 0,.int .i64 0,.int .i64 0,.slice none 0 0,.int .i64 0,.int .i64 0,.slice none 0 0,.int .i64 0,.int .i64 0,.slice none 0 0,.pointer none,.pointer none] 258) = w6 at HZ HM HBK HEN ⊢
       refine hK _ _ (HT.out.quiet HM.out) ?_
       clear hK K
       refine planF_last rfl rfl (fun K hK=>?_)
       rw [if_pos (by rfl)]
       refine wp_store_row 258 (.tmp 11) (.tmp 97) rfl cb [.int .i64 (q:Int),.bool ((nu:Int) == 0),.int .i64 (d.W:Int),.int .i64 (d.H:Int),.slice A0 d.nY c0,.int .i64 (d.W2:Int),.int .i64 (d.H2:Int),.slice A1 d.nC c1,.int .i64 (d.W2:Int),.int .i64 (d.H2:Int),.slice A2 d.nC c2,.int .i64 b0,.int .i64 b1,.slice B0 m0 d0,.int .i64 b3,.int .i64 b4,.slice B1 m1 d1,.int .i64 b6,.int .i64 b7,.slice B2 m2 d2,.int .i64 (d.W:Int),.int .i64 (d.H:Int),.slice (some ⟨gy,0,none⟩) d.nY d.nY,.int .i64 (d.W2:Int),.int .i64 (d.H2:Int),.slice (some ⟨gu,0,none⟩) d.nC d.nC,.int .i64 (d.W2:Int),.int .i64 (d.H2:Int),.slice (some ⟨gv,0,none⟩) d.nC d.nC,.pointer (some ⟨bk,0,none⟩),.pointer (some ⟨g2,0,none⟩)] rfl rfl 258 [.int .i64 0,.bool false,.int .i64 0,.int .i64 0,.slice none 0 0,.int .i64 0,.int .i64 0,.slice none 0 0,.int .i64 0,.int .i64 0,.slice none 0 0,.int .i64 0,.int .i64 0,.slice none 0 0,.int .i64 0,.int .i64 0,.slice none 0 0,.int .i64 0,.int .i64 0,.slice none 0 0,.int .i64 0,.int .i64 0,.slice none 0 0,.int .i64 0,.int .i64 0,.slice none 0 0,.int .i64 0,.int .i64 0,.slice none 0 0,.pointer none,.pointer none] HZ.out rfl (by kernel_rfl) (by kernel_rfl) (fun w9 hb9 hm9=>?_)
       go_simp
       refine hK _ _ ?_
       clear hK K
       refine planF_done ?_
       go_wp2_with fail
       go_meet
       refine efr_c1 HI.out.2.2.2.1 HM.out hm9 HZ.out ?_ LCB HBK.out LBK HEN.out LG2 LV2.out HI.out.2.1 l1 l2 l3 (HI.out.1.own_ 0 rfl)
       rw [HK.out,HAL.out]
       exact hb9
      ·go_simp
       have HZ:=Lib.hid (Blk.new w6 258 #[.int .i64 0,.bool false,.int .i64 0,.int .i64 0,.slice none 0 0,.int .i64 0,.int .i64 0,.slice none 0 0,.int .i64 0,.int .i64 0,.slice none 0 0,.int .i64 0,.int .i64 0,.slice none 0 0,.int .i64 0,.int .i64 0,.slice none 0 0,.int .i64 0,.int .i64 0,.slice none 0 0,.int .i64 0,.int .i64 0,.slice none 0 0,.int .i64 0,.int .i64 0,.slice none 0 0,.int .i64 0,.int .i64 0,.slice none 0 0,.pointer none,.pointer none])
       have LCB:=HM.out.size
       have HM:=Lib.hid (HM.out.alloc (.cells #[.int .i64 0,.bool false,.int .i64 0,.int .i64 0,.slice none 0 0,.int .i64 0,.int .i64 0,.slice none 0 0,.int .i64 0,.int .i64 0,.slice none 0 0,.int .i64 0,.int .i64 0,.slice none 0 0,.int .i64 0,.int .i64 0,.slice none 0 0,.int .i64 0,.int .i64 0,.slice none 0 0,.int .i64 0,.int .i64 0,.slice none 0 0,.int .i64 0,.int .i64 0,.slice none 0 0,.int .i64 0,.int .i64 0,.slice none 0 0,.pointer none,.pointer none] 258))
       have HBK:=Lib.hid (HBK.out.alloc (.cells #[.int .i64 0,.bool false,.int .i64 0,.int .i64 0,.slice none 0 0,.int .i64 0,.int .i64 0,.slice none 0 0,.int .i64 0,.int .i64 0,.slice none 0 0,.int .i64 0,.int .i64 0,.slice none 0 0,.int .i64 0,.int .i64 0,.slice none 0 0,.int .i64 0,.int .i64 0,.slice none 0 0,.int .i64 0,.int .i64 0,.slice none 0 0,.int .i64 0,.int .i64 0,.slice none 0 0,.int .i64 0,.int .i64 0,.slice none 0 0,.pointer none,.pointer none] 258))
       obtain ⟨cb,hcb⟩:∃ cb,cb = w6.heap.size:=⟨_,rfl⟩
       rw [← hcb] at HZ LCB ⊢
       clear hcb
       generalize w6.alloc (.cells #[.int .i64 0,.bool false,.int .i64 0,.int .i64 0,.slice none 0 0,.int .i64 0,.int .i64 0,.slice none 0 0,.int .i64 0,.int .i64 0,.slice none 0 0,.int .i64 0,.int .i64 0,.slice none 0 0,.int .i64 0,.int .i64 0,.slice none 0 0,.int .i64 0,.int .i64 0,.slice none 0 0,.int .i64 0,.int .i64 0,.slice none 0 0,.int .i64 0,.int .i64 0,.slice none 0 0,.int .i64 0,.int .i64 0,.slice none 0 0,.pointer none,.pointer none] 258) = w6 at HZ HM HBK ⊢
       refine hK _ _ (HT.out.quiet HM.out) ?_
       clear hK K
       refine planF_loud rfl rfl (fun K hK=>?_)
       go_simp
       refine (eNew _).mono ?_
       rintro e w6 ⟨g2,v2,rfl,hea,lg2,lv2,hm6⟩
       have HBK:=Lib.hid (HBK.out.keep hm6 (fun h=>h))
       have HEN:=Lib.hid hea
       have LG2:=Nat.le_trans HM.out.size lg2
       have LV2:=Lib.hid (fun j hj=>Nat.le_trans HM.out.size (lv2 j hj))
       clear hea lg2 lv2
       have HM:=Lib.hid (HM.out.trans hm6)
       have HZ:=Lib.hid (HZ.out.keep hm6 (fun h=>h))
       dsimp only []
       refine hK _ _ (HT.out.quiet HM.out) ?_
       clear hK K hm6
       refine planF_read (v:=.agg #[.int .i64 (q:Int),.bool ((nu:Int) == 0),.int .i64 (d.W:Int),.int .i64 (d.H:Int),.slice A0 d.nY c0,.int .i64 (d.W2:Int),.int .i64 (d.H2:Int),.slice A1 d.nC c1,.int .i64 (d.W2:Int),.int .i64 (d.H2:Int),.slice A2 d.nC c2,.int .i64 b0,.int .i64 b1,.slice B0 m0 d0,.int .i64 b3,.int .i64 b4,.slice B1 m1 d1,.int .i64 b6,.int .i64 b7,.slice B2 m2 d2,.int .i64 (d.W:Int),.int .i64 (d.H:Int),.slice (some ⟨gy,0,none⟩) d.nY d.nY,.int .i64 (d.W2:Int),.int .i64 (d.H2:Int),.slice (some ⟨gu,0,none⟩) d.nC d.nC,.int .i64 (d.W2:Int),.int .i64 (d.H2:Int),.slice (some ⟨gv,0,none⟩) d.nC d.nC,.pointer (some ⟨bk,0,none⟩),.pointer (some ⟨g2,0,none⟩)]) rfl rfl rfl (fun _ _=>by kernel_rfl) (fun K hK=>?_);go_simp;refine hK _ ?_;clear hK K
       refine planF_last rfl rfl (fun K hK=>?_)
       rw [if_pos (by rfl)]
       refine wp_store_row 258 (.tmp 11) (.tmp 97) rfl cb [.int .i64 (q:Int),.bool ((nu:Int) == 0),.int .i64 (d.W:Int),.int .i64 (d.H:Int),.slice A0 d.nY c0,.int .i64 (d.W2:Int),.int .i64 (d.H2:Int),.slice A1 d.nC c1,.int .i64 (d.W2:Int),.int .i64 (d.H2:Int),.slice A2 d.nC c2,.int .i64 b0,.int .i64 b1,.slice B0 m0 d0,.int .i64 b3,.int .i64 b4,.slice B1 m1 d1,.int .i64 b6,.int .i64 b7,.slice B2 m2 d2,.int .i64 (d.W:Int),.int .i64 (d.H:Int),.slice (some ⟨gy,0,none⟩) d.nY d.nY,.int .i64 (d.W2:Int),.int .i64 (d.H2:Int),.slice (some ⟨gu,0,none⟩) d.nC d.nC,.int .i64 (d.W2:Int),.int .i64 (d.H2:Int),.slice (some ⟨gv,0,none⟩) d.nC d.nC,.pointer (some ⟨bk,0,none⟩),.pointer (some ⟨g2,0,none⟩)] rfl rfl 258 [.int .i64 0,.bool false,.int .i64 0,.int .i64 0,.slice none 0 0,.int .i64 0,.int .i64 0,.slice none 0 0,.int .i64 0,.int .i64 0,.slice none 0 0,.int .i64 0,.int .i64 0,.slice none 0 0,.int .i64 0,.int .i64 0,.slice none 0 0,.int .i64 0,.int .i64 0,.slice none 0 0,.int .i64 0,.int .i64 0,.slice none 0 0,.int .i64 0,.int .i64 0,.slice none 0 0,.int .i64 0,.int .i64 0,.slice none 0 0,.pointer none,.pointer none] HZ.out rfl (by kernel_rfl) (by kernel_rfl) (fun w9 hb9 hm9=>?_)
       go_simp
       refine hK _ _ ?_
       clear hK K
       refine planF_done ?_
       go_wp2_with fail
       go_meet
       refine efr_c1 HI.out.2.2.2.1 HM.out hm9 HZ.out ?_ LCB HBK.out LBK HEN.out LG2 LV2.out HI.out.2.1 l1 l2 l3 (HI.out.1.own_ 0 rfl)
       rw [HK.out,HAL.out]
       exact hb9
     ·go_simp
      have HZ:=Lib.hid (Blk.new w6 258 #[.int .i64 0,.bool false,.int .i64 0,.int .i64 0,.slice none 0 0,.int .i64 0,.int .i64 0,.slice none 0 0,.int .i64 0,.int .i64 0,.slice none 0 0,.int .i64 0,.int .i64 0,.slice none 0 0,.int .i64 0,.int .i64 0,.slice none 0 0,.int .i64 0,.int .i64 0,.slice none 0 0,.int .i64 0,.int .i64 0,.slice none 0 0,.int .i64 0,.int .i64 0,.slice none 0 0,.int .i64 0,.int .i64 0,.slice none 0 0,.pointer none,.pointer none])
      have LCB:=HM.out.size
      have HM:=Lib.hid (HM.out.alloc (.cells #[.int .i64 0,.bool false,.int .i64 0,.int .i64 0,.slice none 0 0,.int .i64 0,.int .i64 0,.slice none 0 0,.int .i64 0,.int .i64 0,.slice none 0 0,.int .i64 0,.int .i64 0,.slice none 0 0,.int .i64 0,.int .i64 0,.slice none 0 0,.int .i64 0,.int .i64 0,.slice none 0 0,.int .i64 0,.int .i64 0,.slice none 0 0,.int .i64 0,.int .i64 0,.slice none 0 0,.int .i64 0,.int .i64 0,.slice none 0 0,.pointer none,.pointer none] 258))
      obtain ⟨cb,hcb⟩:∃ cb,cb = w6.heap.size:=⟨_,rfl⟩
      rw [← hcb] at HZ LCB ⊢
      clear hcb
      generalize w6.alloc (.cells #[.int .i64 0,.bool false,.int .i64 0,.int .i64 0,.slice none 0 0,.int .i64 0,.int .i64 0,.slice none 0 0,.int .i64 0,.int .i64 0,.slice none 0 0,.int .i64 0,.int .i64 0,.slice none 0 0,.int .i64 0,.int .i64 0,.slice none 0 0,.int .i64 0,.int .i64 0,.slice none 0 0,.int .i64 0,.int .i64 0,.slice none 0 0,.int .i64 0,.int .i64 0,.slice none 0 0,.int .i64 0,.int .i64 0,.slice none 0 0,.pointer none,.pointer none] 258) = w6 at HZ HM ⊢
      refine hK _ _ (HT.out.quiet HM.out) ?_
      clear hK K
      refine planF_loud rfl rfl (fun K hK=>?_)
      go_simp
      refine (bNew _).mono ?_
      rintro e w6 ⟨bk,rfl,hbk,lbk,hm6⟩
      have HBK:=Lib.hid hbk
      have LBK:=Nat.le_trans HM.out.size lbk
      clear hbk lbk
      have HM:=Lib.hid (HM.out.trans hm6)
      have HZ:=Lib.hid (HZ.out.keep hm6 (fun h=>h))
      dsimp only []
      refine hK _ _ (HT.out.quiet HM.out) ?_
      clear hK K hm6
      refine planF_loud rfl rfl (fun K hK=>?_)
      go_simp
      refine (eNew _).mono ?_
      rintro e w6 ⟨g2,v2,rfl,hea,lg2,lv2,hm6⟩
      have HBK:=Lib.hid (HBK.out.keep hm6 (fun h=>h))
      have HEN:=Lib.hid hea
      have LG2:=Nat.le_trans HM.out.size lg2
      have LV2:=Lib.hid (fun j hj=>Nat.le_trans HM.out.size (lv2 j hj))
      clear hea lg2 lv2
      have HM:=Lib.hid (HM.out.trans hm6)
      have HZ:=Lib.hid (HZ.out.keep hm6 (fun h=>h))
      dsimp only []
      refine hK _ _ (HT.out.quiet HM.out) ?_
      clear hK K hm6
      refine planF_read (v:=.agg #[.int .i64 (q:Int),.bool ((nu:Int) == 0),.int .i64 (d.W:Int),.int .i64 (d.H:Int),.slice A0 d.nY c0,.int .i64 (d.W2:Int),.int .i64 (d.H2:Int),.slice A1 d.nC c1,.int .i64 (d.W2:Int),.int .i64 (d.H2:Int),.slice A2 d.nC c2,.int .i64 b0,.int .i64 b1,.slice B0 m0 d0,.int .i64 b3,.int .i64 b4,.slice B1 m1 d1,.int .i64 b6,.int .i64 b7,.slice B2 m2 d2,.int .i64 (d.W:Int),.int .i64 (d.H:Int),.slice (some ⟨gy,0,none⟩) d.nY d.nY,.int .i64 (d.W2:Int),.int .i64 (d.H2:Int),.slice (some ⟨gu,0,none⟩) d.nC d.nC,.int .i64 (d.W2:Int),.int .i64 (d.H2:Int),.slice (some ⟨gv,0,none⟩) d.nC d.nC,.pointer (some ⟨bk,0,none⟩),.pointer (some ⟨g2,0,none⟩)]) rfl rfl rfl (fun _ _=>by kernel_rfl) (fun K hK=>?_);go_simp;refine hK _ ?_;clear hK K
      refine planF_last rfl rfl (fun K hK=>?_)
      rw [if_pos (by rfl)]
      refine wp_store_row 258 (.tmp 11) (.tmp 97) rfl cb [.int .i64 (q:Int),.bool ((nu:Int) == 0),.int .i64 (d.W:Int),.int .i64 (d.H:Int),.slice A0 d.nY c0,.int .i64 (d.W2:Int),.int .i64 (d.H2:Int),.slice A1 d.nC c1,.int .i64 (d.W2:Int),.int .i64 (d.H2:Int),.slice A2 d.nC c2,.int .i64 b0,.int .i64 b1,.slice B0 m0 d0,.int .i64 b3,.int .i64 b4,.slice B1 m1 d1,.int .i64 b6,.int .i64 b7,.slice B2 m2 d2,.int .i64 (d.W:Int),.int .i64 (d.H:Int),.slice (some ⟨gy,0,none⟩) d.nY d.nY,.int .i64 (d.W2:Int),.int .i64 (d.H2:Int),.slice (some ⟨gu,0,none⟩) d.nC d.nC,.int .i64 (d.W2:Int),.int .i64 (d.H2:Int),.slice (some ⟨gv,0,none⟩) d.nC d.nC,.pointer (some ⟨bk,0,none⟩),.pointer (some ⟨g2,0,none⟩)] rfl rfl 258 [.int .i64 0,.bool false,.int .i64 0,.int .i64 0,.slice none 0 0,.int .i64 0,.int .i64 0,.slice none 0 0,.int .i64 0,.int .i64 0,.slice none 0 0,.int .i64 0,.int .i64 0,.slice none 0 0,.int .i64 0,.int .i64 0,.slice none 0 0,.int .i64 0,.int .i64 0,.slice none 0 0,.int .i64 0,.int .i64 0,.slice none 0 0,.int .i64 0,.int .i64 0,.slice none 0 0,.int .i64 0,.int .i64 0,.slice none 0 0,.pointer none,.pointer none] HZ.out rfl (by kernel_rfl) (by kernel_rfl) (fun w9 hb9 hm9=>?_)
      go_simp
      refine hK _ _ ?_
      clear hK K
      refine planF_done ?_
      go_wp2_with fail
      go_meet
      refine efr_c1 HI.out.2.2.2.1 HM.out hm9 HZ.out ?_ LCB HBK.out LBK HEN.out LG2 LV2.out HI.out.2.1 l1 l2 l3 (HI.out.1.own_ 0 rfl)
      rw [HK.out,HAL.out]
      exact hb9
    ·go_simp
     have HZ:=Lib.hid (Blk.new w6 258 #[.int .i64 0,.bool false,.int .i64 0,.int .i64 0,.slice none 0 0,.int .i64 0,.int .i64 0,.slice none 0 0,.int .i64 0,.int .i64 0,.slice none 0 0,.int .i64 0,.int .i64 0,.slice none 0 0,.int .i64 0,.int .i64 0,.slice none 0 0,.int .i64 0,.int .i64 0,.slice none 0 0,.int .i64 0,.int .i64 0,.slice none 0 0,.int .i64 0,.int .i64 0,.slice none 0 0,.int .i64 0,.int .i64 0,.slice none 0 0,.pointer none,.pointer none])
     have LCB:=HM.out.size
     have HM:=Lib.hid (HM.out.alloc (.cells #[.int .i64 0,.bool false,.int .i64 0,.int .i64 0,.slice none 0 0,.int .i64 0,.int .i64 0,.slice none 0 0,.int .i64 0,.int .i64 0,.slice none 0 0,.int .i64 0,.int .i64 0,.slice none 0 0,.int .i64 0,.int .i64 0,.slice none 0 0,.int .i64 0,.int .i64 0,.slice none 0 0,.int .i64 0,.int .i64 0,.slice none 0 0,.int .i64 0,.int .i64 0,.slice none 0 0,.int .i64 0,.int .i64 0,.slice none 0 0,.pointer none,.pointer none] 258))
     obtain ⟨cb,hcb⟩:∃ cb,cb = w6.heap.size:=⟨_,rfl⟩
     rw [← hcb] at HZ LCB ⊢
     clear hcb
     generalize w6.alloc (.cells #[.int .i64 0,.bool false,.int .i64 0,.int .i64 0,.slice none 0 0,.int .i64 0,.int .i64 0,.slice none 0 0,.int .i64 0,.int .i64 0,.slice none 0 0,.int .i64 0,.int .i64 0,.slice none 0 0,.int .i64 0,.int .i64 0,.slice none 0 0,.int .i64 0,.int .i64 0,.slice none 0 0,.int .i64 0,.int .i64 0,.slice none 0 0,.int .i64 0,.int .i64 0,.slice none 0 0,.int .i64 0,.int .i64 0,.slice none 0 0,.pointer none,.pointer none] 258) = w6 at HZ HM ⊢
     refine hK _ _ (HT.out.quiet HM.out) ?_
     clear hK K
     refine planF_loud rfl rfl (fun K hK=>?_)
     go_simp
     refine (ePlanes _ _ _ _ _ _ _ _ _ _ _ _ _ _ _ _).mono ?_
     rintro e w6 ⟨rfl,hm6⟩
     have HM:=Lib.hid (HM.out.trans hm6)
     have HZ:=Lib.hid (HZ.out.keep hm6 (fun h=>h))
     dsimp only []
     refine hK _ _ (HT.out.quiet HM.out) ?_
     clear hK K hm6
     refine planF_loud rfl rfl (fun K hK=>?_)
     go_simp
     refine (bNew _).mono ?_
     rintro e w6 ⟨bk,rfl,hbk,lbk,hm6⟩
     have HBK:=Lib.hid hbk
     have LBK:=Nat.le_trans HM.out.size lbk
     clear hbk lbk
     have HM:=Lib.hid (HM.out.trans hm6)
     have HZ:=Lib.hid (HZ.out.keep hm6 (fun h=>h))
     dsimp only []
     refine hK _ _ (HT.out.quiet HM.out) ?_
     clear hK K hm6
     refine planF_loud rfl rfl (fun K hK=>?_)
     go_simp
     refine (eNew _).mono ?_
     rintro e w6 ⟨g2,v2,rfl,hea,lg2,lv2,hm6⟩
     have HBK:=Lib.hid (HBK.out.keep hm6 (fun h=>h))
     have HEN:=Lib.hid hea
     have LG2:=Nat.le_trans HM.out.size lg2
     have LV2:=Lib.hid (fun j hj=>Nat.le_trans HM.out.size (lv2 j hj))
     clear hea lg2 lv2
     have HM:=Lib.hid (HM.out.trans hm6)
     have HZ:=Lib.hid (HZ.out.keep hm6 (fun h=>h))
     dsimp only []
     refine hK _ _ (HT.out.quiet HM.out) ?_
     clear hK K hm6
     refine planF_read (v:=.agg #[.int .i64 (q:Int),.bool ((nu:Int) == 0),.int .i64 (d.W:Int),.int .i64 (d.H:Int),.slice A0 d.nY c0,.int .i64 (d.W2:Int),.int .i64 (d.H2:Int),.slice A1 d.nC c1,.int .i64 (d.W2:Int),.int .i64 (d.H2:Int),.slice A2 d.nC c2,.int .i64 b0,.int .i64 b1,.slice B0 m0 d0,.int .i64 b3,.int .i64 b4,.slice B1 m1 d1,.int .i64 b6,.int .i64 b7,.slice B2 m2 d2,.int .i64 (d.W:Int),.int .i64 (d.H:Int),.slice (some ⟨gy,0,none⟩) d.nY d.nY,.int .i64 (d.W2:Int),.int .i64 (d.H2:Int),.slice (some ⟨gu,0,none⟩) d.nC d.nC,.int .i64 (d.W2:Int),.int .i64 (d.H2:Int),.slice (some ⟨gv,0,none⟩) d.nC d.nC,.pointer (some ⟨bk,0,none⟩),.pointer (some ⟨g2,0,none⟩)]) rfl rfl rfl (fun _ _=>by kernel_rfl) (fun K hK=>?_);go_simp;refine hK _ ?_;clear hK K
     refine planF_last rfl rfl (fun K hK=>?_)
     rw [if_pos (by rfl)]
     refine wp_store_row 258 (.tmp 11) (.tmp 97) rfl cb [.int .i64 (q:Int),.bool ((nu:Int) == 0),.int .i64 (d.W:Int),.int .i64 (d.H:Int),.slice A0 d.nY c0,.int .i64 (d.W2:Int),.int .i64 (d.H2:Int),.slice A1 d.nC c1,.int .i64 (d.W2:Int),.int .i64 (d.H2:Int),.slice A2 d.nC c2,.int .i64 b0,.int .i64 b1,.slice B0 m0 d0,.int .i64 b3,.int .i64 b4,.slice B1 m1 d1,.int .i64 b6,.int .i64 b7,.slice B2 m2 d2,.int .i64 (d.W:Int),.int .i64 (d.H:Int),.slice (some ⟨gy,0,none⟩) d.nY d.nY,.int .i64 (d.W2:Int),.int .i64 (d.H2:Int),.slice (some ⟨gu,0,none⟩) d.nC d.nC,.int .i64 (d.W2:Int),.int .i64 (d.H2:Int),.slice (some ⟨gv,0,none⟩) d.nC d.nC,.pointer (some ⟨bk,0,none⟩),.pointer (some ⟨g2,0,none⟩)] rfl rfl 258 [.int .i64 0,.bool false,.int .i64 0,.int .i64 0,.slice none 0 0,.int .i64 0,.int .i64 0,.slice none 0 0,.int .i64 0,.int .i64 0,.slice none 0 0,.int .i64 0,.int .i64 0,.slice none 0 0,.int .i64 0,.int .i64 0,.slice none 0 0,.int .i64 0,.int .i64 0,.slice none 0 0,.int .i64 0,.int .i64 0,.slice none 0 0,.int .i64 0,.int .i64 0,.slice none 0 0,.int .i64 0,.int .i64 0,.slice none 0 0,.pointer none,.pointer none] HZ.out rfl (by kernel_rfl) (by kernel_rfl) (fun w9 hb9 hm9=>?_)
     go_simp
     refine hK _ _ ?_
     clear hK K
     refine planF_done ?_
     go_wp2_with fail
     go_meet
     refine efr_c1 HI.out.2.2.2.1 HM.out hm9 HZ.out ?_ LCB HBK.out LBK HEN.out LG2 LV2.out HI.out.2.1 l1 l2 l3 (HI.out.1.own_ 0 rfl)
     rw [HK.out,HAL.out]
     exact hb9
   ·go_simp
    have HZ:=Lib.hid (Blk.new w6 258 #[.int .i64 0,.bool false,.int .i64 0,.int .i64 0,.slice none 0 0,.int .i64 0,.int .i64 0,.slice none 0 0,.int .i64 0,.int .i64 0,.slice none 0 0,.int .i64 0,.int .i64 0,.slice none 0 0,.int .i64 0,.int .i64 0,.slice none 0 0,.int .i64 0,.int .i64 0,.slice none 0 0,.int .i64 0,.int .i64 0,.slice none 0 0,.int .i64 0,.int .i64 0,.slice none 0 0,.int .i64 0,.int .i64 0,.slice none 0 0,.pointer none,.pointer none])
    have LCB:=HM.out.size
    have HM:=Lib.hid (HM.out.alloc (.cells #[.int .i64 0,.bool false,.int .i64 0,.int .i64 0,.slice none 0 0,.int .i64 0,.int .i64 0,.slice none 0 0,.int .i64 0,.int .i64 0,.slice none 0 0,.int .i64 0,.int .i64 0,.slice none 0 0,.int .i64 0,.int .i64 0,.slice none 0 0,.int .i64 0,.int .i64 0,.slice none 0 0,.int .i64 0,.int .i64 0,.slice none 0 0,.int .i64 0,.int .i64 0,.slice none 0 0,.int .i64 0,.int .i64 0,.slice none 0 0,.pointer none,.pointer none] 258))
    obtain ⟨cb,hcb⟩:∃ cb,cb = w6.heap.size:=⟨_,rfl⟩
    rw [← hcb] at HZ LCB ⊢
    clear hcb
    generalize w6.alloc (.cells #[.int .i64 0,.bool false,.int .i64 0,.int .i64 0,.slice none 0 0,.int .i64 0,.int .i64 0,.slice none 0 0,.int .i64 0,.int .i64 0,.slice none 0 0,.int .i64 0,.int .i64 0,.slice none 0 0,.int .i64 0,.int .i64 0,.slice none 0 0,.int .i64 0,.int .i64 0,.slice none 0 0,.int .i64 0,.int .i64 0,.slice none 0 0,.int .i64 0,.int .i64 0,.slice none 0 0,.int .i64 0,.int .i64 0,.slice none 0 0,.pointer none,.pointer none] 258) = w6 at HZ HM ⊢
    refine hK _ _ (HT.out.quiet HM.out) ?_
    clear hK K
    refine planF_loud rfl rfl (fun K hK=>?_)
    go_simp
    refine (ePlanes _ _ _ _ _ _ _ _ _ _ _ _ _ _ _ _).mono ?_
    rintro e w6 ⟨rfl,hm6⟩
    have HM:=Lib.hid (HM.out.trans hm6)
    have HZ:=Lib.hid (HZ.out.keep hm6 (fun h=>h))
    dsimp only []
    refine hK _ _ (HT.out.quiet HM.out) ?_
    clear hK K hm6
    refine planF_loud rfl rfl (fun K hK=>?_)
    go_simp
    refine (ePlanes _ _ _ _ _ _ _ _ _ _ _ _ _ _ _ _).mono ?_
    rintro e w6 ⟨rfl,hm6⟩
    have HM:=Lib.hid (HM.out.trans hm6)
    have HZ:=Lib.hid (HZ.out.keep hm6 (fun h=>h))
    dsimp only []
    refine hK _ _ (HT.out.quiet HM.out) ?_
    clear hK K hm6
    refine planF_loud rfl rfl (fun K hK=>?_)
    go_simp
    refine (bNew _).mono ?_
    rintro e w6 ⟨bk,rfl,hbk,lbk,hm6⟩
    have HBK:=Lib.hid hbk
    have LBK:=Nat.le_trans HM.out.size lbk
    clear hbk lbk
    have HM:=Lib.hid (HM.out.trans hm6)
    have HZ:=Lib.hid (HZ.out.keep hm6 (fun h=>h))
    dsimp only []
    refine hK _ _ (HT.out.quiet HM.out) ?_
    clear hK K hm6
    refine planF_loud rfl rfl (fun K hK=>?_)
    go_simp
    refine (eNew _).mono ?_
    rintro e w6 ⟨g2,v2,rfl,hea,lg2,lv2,hm6⟩
    have HBK:=Lib.hid (HBK.out.keep hm6 (fun h=>h))
    have HEN:=Lib.hid hea
    have LG2:=Nat.le_trans HM.out.size lg2
    have LV2:=Lib.hid (fun j hj=>Nat.le_trans HM.out.size (lv2 j hj))
    clear hea lg2 lv2
    have HM:=Lib.hid (HM.out.trans hm6)
    have HZ:=Lib.hid (HZ.out.keep hm6 (fun h=>h))
    dsimp only []
    refine hK _ _ (HT.out.quiet HM.out) ?_
    clear hK K hm6
    refine planF_read (v:=.agg #[.int .i64 (q:Int),.bool ((nu:Int) == 0),.int .i64 (d.W:Int),.int .i64 (d.H:Int),.slice A0 d.nY c0,.int .i64 (d.W2:Int),.int .i64 (d.H2:Int),.slice A1 d.nC c1,.int .i64 (d.W2:Int),.int .i64 (d.H2:Int),.slice A2 d.nC c2,.int .i64 b0,.int .i64 b1,.slice B0 m0 d0,.int .i64 b3,.int .i64 b4,.slice B1 m1 d1,.int .i64 b6,.int .i64 b7,.slice B2 m2 d2,.int .i64 (d.W:Int),.int .i64 (d.H:Int),.slice (some ⟨gy,0,none⟩) d.nY d.nY,.int .i64 (d.W2:Int),.int .i64 (d.H2:Int),.slice (some ⟨gu,0,none⟩) d.nC d.nC,.int .i64 (d.W2:Int),.int .i64 (d.H2:Int),.slice (some ⟨gv,0,none⟩) d.nC d.nC,.pointer (some ⟨bk,0,none⟩),.pointer (some ⟨g2,0,none⟩)]) rfl rfl rfl (fun _ _=>by kernel_rfl) (fun K hK=>?_);go_simp;refine hK _ ?_;clear hK K
    refine planF_last rfl rfl (fun K hK=>?_)
    rw [if_pos (by rfl)]
    refine wp_store_row 258 (.tmp 11) (.tmp 97) rfl cb [.int .i64 (q:Int),.bool ((nu:Int) == 0),.int .i64 (d.W:Int),.int .i64 (d.H:Int),.slice A0 d.nY c0,.int .i64 (d.W2:Int),.int .i64 (d.H2:Int),.slice A1 d.nC c1,.int .i64 (d.W2:Int),.int .i64 (d.H2:Int),.slice A2 d.nC c2,.int .i64 b0,.int .i64 b1,.slice B0 m0 d0,.int .i64 b3,.int .i64 b4,.slice B1 m1 d1,.int .i64 b6,.int .i64 b7,.slice B2 m2 d2,.int .i64 (d.W:Int),.int .i64 (d.H:Int),.slice (some ⟨gy,0,none⟩) d.nY d.nY,.int .i64 (d.W2:Int),.int .i64 (d.H2:Int),.slice (some ⟨gu,0,none⟩) d.nC d.nC,.int .i64 (d.W2:Int),.int .i64 (d.H2:Int),.slice (some ⟨gv,0,none⟩) d.nC d.nC,.pointer (some ⟨bk,0,none⟩),.pointer (some ⟨g2,0,none⟩)] rfl rfl 258 [.int .i64 0,.bool false,.int .i64 0,.int .i64 0,.slice none 0 0,.int .i64 0,.int .i64 0,.slice none 0 0,.int .i64 0,.int .i64 0,.slice none 0 0,.int .i64 0,.int .i64 0,.slice none 0 0,.int .i64 0,.int .i64 0,.slice none 0 0,.int .i64 0,.int .i64 0,.slice none 0 0,.int .i64 0,.int .i64 0,.slice none 0 0,.int .i64 0,.int .i64 0,.slice none 0 0,.int .i64 0,.int .i64 0,.slice none 0 0,.pointer none,.pointer none] HZ.out rfl (by kernel_rfl) (by kernel_rfl) (fun w9 hb9 hm9=>?_)
    go_simp
    refine hK _ _ ?_
    clear hK K
    refine planF_done ?_
    go_wp2_with fail
    go_meet
    refine efr_c1 HI.out.2.2.2.1 HM.out hm9 HZ.out ?_ LCB HBK.out LBK HEN.out LG2 LV2.out HI.out.2.1 l1 l2 l3 (HI.out.1.own_ 0 rfl)
    rw [HK.out,HAL.out]
    exact hb9
  ·go_simp
   have HZ:=Lib.hid (Blk.new w6 258 #[.int .i64 0,.bool false,.int .i64 0,.int .i64 0,.slice none 0 0,.int .i64 0,.int .i64 0,.slice none 0 0,.int .i64 0,.int .i64 0,.slice none 0 0,.int .i64 0,.int .i64 0,.slice none 0 0,.int .i64 0,.int .i64 0,.slice none 0 0,.int .i64 0,.int .i64 0,.slice none 0 0,.int .i64 0,.int .i64 0,.slice none 0 0,.int .i64 0,.int .i64 0,.slice none 0 0,.int .i64 0,.int .i64 0,.slice none 0 0,.pointer none,.pointer none])
   have LCB:=HM.out.size
   have HM:=Lib.hid (HM.out.alloc (.cells #[.int .i64 0,.bool false,.int .i64 0,.int .i64 0,.slice none 0 0,.int .i64 0,.int .i64 0,.slice none 0 0,.int .i64 0,.int .i64 0,.slice none 0 0,.int .i64 0,.int .i64 0,.slice none 0 0,.int .i64 0,.int .i64 0,.slice none 0 0,.int .i64 0,.int .i64 0,.slice none 0 0,.int .i64 0,.int .i64 0,.slice none 0 0,.int .i64 0,.int .i64 0,.slice none 0 0,.int .i64 0,.int .i64 0,.slice none 0 0,.pointer none,.pointer none] 258))
   obtain ⟨cb,hcb⟩:∃ cb,cb = w6.heap.size:=⟨_,rfl⟩
   rw [← hcb] at HZ LCB ⊢
   clear hcb
   generalize w6.alloc (.cells #[.int .i64 0,.bool false,.int .i64 0,.int .i64 0,.slice none 0 0,.int .i64 0,.int .i64 0,.slice none 0 0,.int .i64 0,.int .i64 0,.slice none 0 0,.int .i64 0,.int .i64 0,.slice none 0 0,.int .i64 0,.int .i64 0,.slice none 0 0,.int .i64 0,.int .i64 0,.slice none 0 0,.int .i64 0,.int .i64 0,.slice none 0 0,.int .i64 0,.int .i64 0,.slice none 0 0,.int .i64 0,.int .i64 0,.slice none 0 0,.pointer none,.pointer none] 258) = w6 at HZ HM ⊢
   refine hK _ _ (HT.out.quiet HM.out) ?_
   clear hK K
   refine planF_loud rfl rfl (fun K hK=>?_)
   go_simp
   refine (ePlanes _ _ _ _ _ _ _ _ _ _ _ _ _ _ _ _).mono ?_
   rintro e w6 ⟨rfl,hm6⟩
   have HM:=Lib.hid (HM.out.trans hm6)
   have HZ:=Lib.hid (HZ.out.keep hm6 (fun h=>h))
   dsimp only []
   refine hK _ _ (HT.out.quiet HM.out) ?_
   clear hK K hm6
   refine planF_loud rfl rfl (fun K hK=>?_)
   go_simp
   refine (ePlanes _ _ _ _ _ _ _ _ _ _ _ _ _ _ _ _).mono ?_
   rintro e w6 ⟨rfl,hm6⟩
   have HM:=Lib.hid (HM.out.trans hm6)
   have HZ:=Lib.hid (HZ.out.keep hm6 (fun h=>h))
   dsimp only []
   refine hK _ _ (HT.out.quiet HM.out) ?_
   clear hK K hm6
   refine planF_loud rfl rfl (fun K hK=>?_)
   go_simp
   refine (ePlanes _ _ _ _ _ _ _ _ _ _ _ _ _ _ _ _).mono ?_
   rintro e w6 ⟨rfl,hm6⟩
   have HM:=Lib.hid (HM.out.trans hm6)
   have HZ:=Lib.hid (HZ.out.keep hm6 (fun h=>h))
   dsimp only []
   refine hK _ _ (HT.out.quiet HM.out) ?_
   clear hK K hm6
   refine planF_loud rfl rfl (fun K hK=>?_)
   go_simp
   refine (bNew _).mono ?_
   rintro e w6 ⟨bk,rfl,hbk,lbk,hm6⟩
   have HBK:=Lib.hid hbk
   have LBK:=Nat.le_trans HM.out.size lbk
   clear hbk lbk
   have HM:=Lib.hid (HM.out.trans hm6)
   have HZ:=Lib.hid (HZ.out.keep hm6 (fun h=>h))
   dsimp only []
   refine hK _ _ (HT.out.quiet HM.out) ?_
   clear hK K hm6
   refine planF_loud rfl rfl (fun K hK=>?_)
   go_simp
   refine (eNew _).mono ?_
   rintro e w6 ⟨g2,v2,rfl,hea,lg2,lv2,hm6⟩
   have HBK:=Lib.hid (HBK.out.keep hm6 (fun h=>h))
   have HEN:=Lib.hid hea
   have LG2:=Nat.le_trans HM.out.size lg2
   have LV2:=Lib.hid (fun j hj=>Nat.le_trans HM.out.size (lv2 j hj))
   clear hea lg2 lv2
   have HM:=Lib.hid (HM.out.trans hm6)
   have HZ:=Lib.hid (HZ.out.keep hm6 (fun h=>h))
   dsimp only []
   refine hK _ _ (HT.out.quiet HM.out) ?_
   clear hK K hm6
   refine planF_read (v:=.agg #[.int .i64 (q:Int),.bool ((nu:Int) == 0),.int .i64 (d.W:Int),.int .i64 (d.H:Int),.slice A0 d.nY c0,.int .i64 (d.W2:Int),.int .i64 (d.H2:Int),.slice A1 d.nC c1,.int .i64 (d.W2:Int),.int .i64 (d.H2:Int),.slice A2 d.nC c2,.int .i64 b0,.int .i64 b1,.slice B0 m0 d0,.int .i64 b3,.int .i64 b4,.slice B1 m1 d1,.int .i64 b6,.int .i64 b7,.slice B2 m2 d2,.int .i64 (d.W:Int),.int .i64 (d.H:Int),.slice (some ⟨gy,0,none⟩) d.nY d.nY,.int .i64 (d.W2:Int),.int .i64 (d.H2:Int),.slice (some ⟨gu,0,none⟩) d.nC d.nC,.int .i64 (d.W2:Int),.int .i64 (d.H2:Int),.slice (some ⟨gv,0,none⟩) d.nC d.nC,.pointer (some ⟨bk,0,none⟩),.pointer (some ⟨g2,0,none⟩)]) rfl rfl rfl (fun _ _=>by kernel_rfl) (fun K hK=>?_);go_simp;refine hK _ ?_;clear hK K
   refine planF_last rfl rfl (fun K hK=>?_)
   rw [if_pos (by rfl)]
   refine wp_store_row 258 (.tmp 11) (.tmp 97) rfl cb [.int .i64 (q:Int),.bool ((nu:Int) == 0),.int .i64 (d.W:Int),.int .i64 (d.H:Int),.slice A0 d.nY c0,.int .i64 (d.W2:Int),.int .i64 (d.H2:Int),.slice A1 d.nC c1,.int .i64 (d.W2:Int),.int .i64 (d.H2:Int),.slice A2 d.nC c2,.int .i64 b0,.int .i64 b1,.slice B0 m0 d0,.int .i64 b3,.int .i64 b4,.slice B1 m1 d1,.int .i64 b6,.int .i64 b7,.slice B2 m2 d2,.int .i64 (d.W:Int),.int .i64 (d.H:Int),.slice (some ⟨gy,0,none⟩) d.nY d.nY,.int .i64 (d.W2:Int),.int .i64 (d.H2:Int),.slice (some ⟨gu,0,none⟩) d.nC d.nC,.int .i64 (d.W2:Int),.int .i64 (d.H2:Int),.slice (some ⟨gv,0,none⟩) d.nC d.nC,.pointer (some ⟨bk,0,none⟩),.pointer (some ⟨g2,0,none⟩)] rfl rfl 258 [.int .i64 0,.bool false,.int .i64 0,.int .i64 0,.slice none 0 0,.int .i64 0,.int .i64 0,.slice none 0 0,.int .i64 0,.int .i64 0,.slice none 0 0,.int .i64 0,.int .i64 0,.slice none 0 0,.int .i64 0,.int .i64 0,.slice none 0 0,.int .i64 0,.int .i64 0,.slice none 0 0,.int .i64 0,.int .i64 0,.slice none 0 0,.int .i64 0,.int .i64 0,.slice none 0 0,.int .i64 0,.int .i64 0,.slice none 0 0,.pointer none,.pointer none] HZ.out rfl (by kernel_rfl) (by kernel_rfl) (fun w9 hb9 hm9=>?_)
   go_simp
   refine hK _ _ ?_
   clear hK K
   refine planF_done ?_
   go_wp2_with fail
   go_meet
   refine efr_c1 HI.out.2.2.2.1 HM.out hm9 HZ.out ?_ LCB HBK.out LBK HEN.out LG2 LV2.out HI.out.2.1 l1 l2 l3 (HI.out.1.own_ 0 rfl)
   rw [HK.out,HAL.out]
   exact hb9
 case rest=>
  obtain ⟨cb,bk,g2,v,rfl,hcw,hbb⟩:=hcut
  rename World=>wr
  have hq6:=(HB3.out.1.quiet hcw.mod).own_ 0 rfl
  dsimp only at hq6
  obtain ⟨s0,sf⟩:=hq6.both
  have sl:w.heap.size + 1 + 1 < wr.heap.size:=hq6.lt
  have sh:wr.cell? ⟨w.heap.size + 1 + 1,1,none⟩ = some (.int .i64 (d.H:Int)):=s0 1
  obtain ⟨nw,hnw⟩:∃ nw,nw = d.W / 16:=⟨_,rfl⟩
  obtain ⟨nh,hnh⟩:∃ nh,nh = d.H / 16:=⟨_,rfl⟩
  have tw:(d.W:Int).tdiv 16 = (nw:Int):=by rw [Int.tdiv_eq_ediv_of_nonneg (by omega)];omega
  have th:(d.H:Int).tdiv 16 = (nh:Int):=by rw [Int.tdiv_eq_ediv_of_nonneg (by omega)];omega
  have nw4:nw ≤ 4:=by omega
  have nh4:nh ≤ 4:=by omega
  have HN:=Lib.hid (And.intro hnw hnh)
  have HC:=Lib.hid (And.intro hcw hbb)
  have HHG:Hid (w.heap.size + 2 < hg):=by have z:=HS2.out.own_ 0 rfl;dsimp only at z;have z1:=z.lt;have z2:w2.heap.size ≤ hg:=HB3.out.2.2;show _ < _;omega
  have HRB:=Lib.hid (HB3.out.1.own_ 1 rfl)
  have HHL:Hid (1 ≤ hl ∧ hl ≤ 3):=by have hb:=hdrB_len nu (by have:=H0.out.2.2.2.2.2.2.2.2.2;omega) q (by omega);rw [H0.out.2.2.2.2.2.2.2.2.1,← HL.out] at hb;exact hb
  clear hcw hbb hq6 s0 hnw hnh HI HT
  go_wp2_with fail
  go_loopw [101] (EFrRows w3 bb cb bk g2 K (q:Int) d (flV d A0 A1 A2 c0 c1 c2) al gy gu gv fr ahd nh) (fun s _=>nh - (intOf s).toNat)
  case atStart=>exact ⟨0,v,Nat.zero_le _,rfl,HC.out.1,HC.out.2⟩
  case round=>
   rename World=>wi
   clear sh sf sl
   obtain ⟨i,v1,hi,rfl,hcw,hbb⟩:=hrel
   have hq6:=(HB3.out.1.quiet hcw.mod).own_ 0 rfl
   dsimp only at hq6
   obtain ⟨s0,sf⟩:=hq6.both
   have sl:w.heap.size + 1 + 1 < wi.heap.size:=hq6.lt
   by_cases hlt:i < nh
   ·have dd1:decide ((i:Int) < (nh:Int)) = true:=decide_eq_true (by omega)
    have sw:wi.cell? ⟨w.heap.size + 1 + 1,0,none⟩ = some (.int .i64 (d.W:Int)):=s0 0
    have HI2:=Lib.hid (And.intro hcw hbb)
    clear hcw hbb hq6 s0
    go_wp2_with fail
    go_loopw [107] (EFrRow w3 bb cb bk g2 K (q:Int) d (flV d A0 A1 A2 c0 c1 c2) al gy gu gv fr ahd nw i) (fun s _=>nw - (intOf s).toNat)
    case atStart=>exact ⟨0,v1,Nat.zero_le _,rfl,HI2.out.1,HI2.out.2⟩
    case round=>
     rename World=>wj
     clear sw sf sl
     obtain ⟨j,v2,hj,rfl,hcw,hbb⟩:=hrel
     by_cases hjl:j < nw
     ·have dd2:decide ((j:Int) < (nw:Int)) = true:=decide_eq_true (by omega)
      have hSq:=efr_sq HO.out hcw (sx:=j) (sy:=i) (by have:=HN.out;omega) (by have:=HN.out;omega) hW64 hH64
      have hCb:=hcw.cod.lt
      have HSq:=Lib.hid (And.intro hSq hbb)
      clear hSq hcw hbb hCb
      go_wp2_with fail
      refine HSq.out.1.mono ?_
      rintro e w6 ⟨rfl,⟨v6,hc6⟩,hk6⟩
      have HB6:=Lib.hid (And.intro hc6 (hk6 _ _ _ ⟨by decide,by decide,by decide⟩ HSq.out.2))
      clear hc6 hk6 HSq
      go_wp2_with fail
      go_roundw
      case rel=>exact ⟨j + 1,v6,by omega,by go_num,HB6.out.1,HB6.out.2⟩
      case measure=>simp [intOf];omega
     ·obtain rfl:j = nw:=by omega
      have dd2:decide ((j:Int) < (j:Int)) = false:=decide_eq_false (by omega)
      have hj2:j = d.W / 16:=HN.out.1
      rw [hj2] at hcw
      have HCW:=Lib.hid (And.intro hcw hbb)
      clear hcw hbb hj2
      go_wp2_with fail
      go_roundw
      case rel=>exact ⟨i + 1,v2,by omega,by go_num,HCW.out.1,HCW.out.2⟩
      case measure=>simp [intOf];omega
   ·obtain rfl:i = nh:=by omega
    have dd1:decide ((i:Int) < (i:Int)) = false:=decide_eq_false (by omega)
    obtain ⟨X,hX⟩:∃ X,X = ecode d fr ahd K (q:Int):=⟨_,rfl⟩
    have hX2:erows d fr ahd K (q:Int) i (blankPix d 0,es0) = X:=by rw [hX,HN.out.2];rfl
    rw [hX2] at hcw
    have hlen:4 ≤ X.2.code.length ∧ X.2.code.length ≤ 300000:=by rw [hX];exact ecode_len ⟨by omega,by omega⟩ hW64 hH64
    have hx6:=H0.out.1.keep (HB3.out.1.quiet hcw.mod).mod (fun h=>h)
    have hf6:=(HB3.out.1.quiet hcw.mod).own_ 2 rfl
    dsimp only at hf6
    have hal6:=H0.out.2.2.2.2.2.2.1
    have HT:Hid (Tri wi g w.heap.size bb (encV (d.W:Int) (d.H:Int) (G:Int) (q:Int) (tg:Int) (nu:Int) [.int .i64 b0,.int .i64 b1,.slice B0 m0 d0,.int .i64 b3,.int .i64 b4,.slice B1 m1 d1,.int .i64 b6,.int .i64 b7,.slice B2 m2 d2]) #[.int .i64 (d.W:Int),.int .i64 (d.H:Int),.slice A0 d.nY c0,.int .i64 (d.W2:Int),.int .i64 (d.H2:Int),.slice A1 d.nC c1,.int .i64 (d.W2:Int),.int .i64 (d.H2:Int),.slice A2 d.nC c2] #[.int .i64 (d.W:Int),.int .i64 (d.H:Int),.slice (some ⟨gy,0,none⟩) d.nY d.nY,.int .i64 (d.W2:Int),.int .i64 (d.H2:Int),.slice (some ⟨gu,0,none⟩) d.nC d.nC,.int .i64 (d.W2:Int),.int .i64 (d.H2:Int),.slice (some ⟨gv,0,none⟩) d.nC d.nC]):=⟨by rw [← hal6];exact hx6,hf6,hbb⟩
    have HX:=Lib.hid (And.intro hcw (And.intro hX hlen))
    have hbw:bb < wi.heap.size:=hbb.lt
    have hgw:g < wi.heap.size:=hx6.lt
    have hfw:w.heap.size < wi.heap.size:=hf6.lt
    have HDF:=Lib.hid (fun (w':World) (hf:FrameAt w' d gy gu gv X.1)=>dFrame w' d H0.out.2.2.2.2.1 gy gu gv X.1 q hq hf)
    clear hcw hbb hq6 s0 hX2 hlen hx6 hf6 hal6 hX
    go_upto_region 22 with (fail)
    go_cut [14,9] (fun v14 v9 wx=>EFrC2 wi d (smPix q d X.1) v14 v9 wx)
    case first=>
     refine wp_region_planF [5,9,10] [0,1,2,3,4,6,7,8,11] (PTree.after [0,1,2,3,4] (.fork 5 9 (PTree.after [6,7,8] (.seq 9 (.seq 10 (.seq 11 .nil)))) (.seq 5 (PTree.after [6,7,8] (.seq 10 (.seq 11 .nil)))))) (fun w'=>Tri w' g w.heap.size bb (encV (d.W:Int) (d.H:Int) (G:Int) (q:Int) (tg:Int) (nu:Int) [.int .i64 b0,.int .i64 b1,.slice B0 m0 d0,.int .i64 b3,.int .i64 b4,.slice B1 m1 d1,.int .i64 b6,.int .i64 b7,.slice B2 m2 d2]) #[.int .i64 (d.W:Int),.int .i64 (d.H:Int),.slice A0 d.nY c0,.int .i64 (d.W2:Int),.int .i64 (d.H2:Int),.slice A1 d.nC c1,.int .i64 (d.W2:Int),.int .i64 (d.H2:Int),.slice A2 d.nC c2] #[.int .i64 (d.W:Int),.int .i64 (d.H:Int),.slice (some ⟨gy,0,none⟩) d.nY d.nY,.int .i64 (d.W2:Int),.int .i64 (d.H2:Int),.slice (some ⟨gu,0,none⟩) d.nC d.nC,.int .i64 (d.W2:Int),.int .i64 (d.H2:Int),.slice (some ⟨gv,0,none⟩) d.nC d.nC]) (by kernel_rfl) (by kernel_rfl) (fun _ _ _ d _ h=>by cases d <;> exact h) HT.out.drew ?_
     refine planF_load rfl rfl _ _ rfl rfl bb 0 rfl [.int .i64 (d.W:Int),.int .i64 (d.H:Int),.slice (some ⟨gy,0,none⟩) d.nY d.nY,.int .i64 (d.W2:Int),.int .i64 (d.H2:Int),.slice (some ⟨gu,0,none⟩) d.nC d.nC,.int .i64 (d.W2:Int),.int .i64 (d.H2:Int),.slice (some ⟨gv,0,none⟩) d.nC d.nC] _ (fun w' hS=>hS.b.range 0 _ rfl) Tryz.underlying58 rfl (by kernel_rfl) (fun K hK=>?_);go_simp;refine hK _ ?_;clear hK K
     refine planF_read (v:=(.pointer (some ⟨g,0,none⟩))) rfl rfl rfl (fun _ _=>rfl) (fun K hK=>?_);go_simp;refine hK _ ?_;clear hK K
     refine planF_read (v:=(.pointer (some ⟨g,0,none⟩))) rfl rfl rfl (fun _ _=>rfl) (fun K hK=>?_);go_simp;refine hK _ ?_;clear hK K
     refine planF_read (v:=(.pointer (some ⟨g,3,none⟩))) rfl rfl rfl (fun _ _=>rfl) (fun K hK=>?_);go_simp;refine hK _ ?_;clear hK K
     refine planF_one rfl rfl _ _ rfl rfl g 3 rfl (.int .i64 (q:Int)) _ (fun w' hS=>hS.x.cell 3) Tryz.underlying3 rfl (fun K hK=>?_);go_simp;refine hK _ ?_;clear hK K
     have HM:=Lib.hid ((Mod.refl (fun _=>False) wi).drew)
     generalize wi.drew = w6 at HM ⊢
     refine planF_fork rfl rfl (fun K hK=>?_) (fun K hK=>?_)
     ·go_simp
      refine (HDF.out _ (HX.out.1.fa.quiet HM.out)).mono ?_
      rintro e w7 ⟨p,rfl,⟨ay,au,av,rfl,hfa7,ly,lu,lv⟩,hm7⟩
      have LY:=Nat.le_trans HM.out.size ly
      have LU:=Nat.le_trans HM.out.size lu
      have LV:=Nat.le_trans HM.out.size lv
      have HFA:=Lib.hid hfa7
      clear hfa7 ly lu lv
      have HM:=Lib.hid (HM.out.trans hm7)
      unfold frameV
      dsimp only []
      refine hK _ _ (HT.out.quiet HM.out) ?_
      clear hK K hm7
      refine planF_read (v:=.tuple #[.agg #[.int .i64 (d.W:Int),.int .i64 (d.H:Int),.slice (some ⟨ay,0,none⟩) d.nY d.nY,.int .i64 (d.W2:Int),.int .i64 (d.H2:Int),.slice (some ⟨au,0,none⟩) d.nC d.nC,.int .i64 (d.W2:Int),.int .i64 (d.H2:Int),.slice (some ⟨av,0,none⟩) d.nC d.nC],.int .i64 0]) rfl rfl rfl (fun _ _=>rfl) (fun K hK=>?_);go_simp;refine hK _ ?_;clear hK K
      refine planF_read (v:=.agg #[.int .i64 (d.W:Int),.int .i64 (d.H:Int),.slice (some ⟨ay,0,none⟩) d.nY d.nY,.int .i64 (d.W2:Int),.int .i64 (d.H2:Int),.slice (some ⟨au,0,none⟩) d.nC d.nC,.int .i64 (d.W2:Int),.int .i64 (d.H2:Int),.slice (some ⟨av,0,none⟩) d.nC d.nC]) rfl rfl rfl (fun _ _=>rfl) (fun K hK=>?_);go_simp;refine hK _ ?_;clear hK K
      refine planF_read (v:=.int .i64 0) rfl rfl rfl (fun _ _=>rfl) (fun K hK=>?_);go_simp;refine hK _ ?_;clear hK K
      refine planF_loud rfl rfl (fun K hK=>?_)
      go_simp
      have HZ:=Lib.hid (Blk.new w7 58 #[.int .i64 0,.int .i64 0,.slice none 0 0,.int .i64 0,.int .i64 0,.slice none 0 0,.int .i64 0,.int .i64 0,.slice none 0 0])
      have LZ:=HM.out.size
      have HM:=Lib.hid (HM.out.alloc (.cells #[.int .i64 0,.int .i64 0,.slice none 0 0,.int .i64 0,.int .i64 0,.slice none 0 0,.int .i64 0,.int .i64 0,.slice none 0 0] 58))
      obtain ⟨zb,hzb⟩:∃ zb,zb = w7.heap.size:=⟨_,rfl⟩
      rw [← hzb] at HZ LZ ⊢
      have NZ:ay ≠ zb ∧ au ≠ zb ∧ av ≠ zb:=by have a:=HFA.out.by_.lt;have b:=HFA.out.bu.lt;have c:=HFA.out.bv.lt;omega
      have HFA:=Lib.hid (HFA.out.quiet ((Mod.refl (fun _=>False) w7).alloc (.cells #[.int .i64 0,.int .i64 0,.slice none 0 0,.int .i64 0,.int .i64 0,.slice none 0 0,.int .i64 0,.int .i64 0,.slice none 0 0] 58)))
      clear hzb
      generalize w7.alloc (.cells #[.int .i64 0,.int .i64 0,.slice none 0 0,.int .i64 0,.int .i64 0,.slice none 0 0,.int .i64 0,.int .i64 0,.slice none 0 0] 58) = w8 at HZ HM HFA ⊢
      refine hK _ _ (HT.out.quiet HM.out) ?_
      clear hK K
      refine planF_loud rfl rfl (fun K hK=>?_)
      rw [if_pos (by rfl)]
      refine wp_store_row 58 (.tmp 14) (.tmp 122) rfl zb [.int .i64 (d.W:Int),.int .i64 (d.H:Int),.slice (some ⟨ay,0,none⟩) d.nY d.nY,.int .i64 (d.W2:Int),.int .i64 (d.H2:Int),.slice (some ⟨au,0,none⟩) d.nC d.nC,.int .i64 (d.W2:Int),.int .i64 (d.H2:Int),.slice (some ⟨av,0,none⟩) d.nC d.nC] rfl rfl 58 [.int .i64 0,.int .i64 0,.slice none 0 0,.int .i64 0,.int .i64 0,.slice none 0 0,.int .i64 0,.int .i64 0,.slice none 0 0] HZ.out rfl (by kernel_rfl) (by kernel_rfl) (fun w9 hb9 hm9=>?_)
      go_simp
      refine hK _ _ ((HT.out.quiet HM.out).keep1 hm9 (by omega) (by omega) (by omega)) ?_
      clear hK K
      refine planF_read (v:=.int .i64 0) rfl rfl rfl (fun _ _=>rfl) (fun K hK=>?_);go_simp;refine hK _ ?_;clear hK K
      refine planF_done ?_
      go_wp2_with fail
      go_meet
      exact ⟨zb,ay,au,av,rfl,rfl,hb9,HFA.out.mod hm9 NZ.1 NZ.2.1 NZ.2.2,LZ,LY,LU,LV,NZ,HM.out.into hm9 (fun i e=>.inr (by omega))⟩
     ·go_simp
      have HZ:=Lib.hid (Blk.new w6 58 #[.int .i64 0,.int .i64 0,.slice none 0 0,.int .i64 0,.int .i64 0,.slice none 0 0,.int .i64 0,.int .i64 0,.slice none 0 0])
      have LZ:=HM.out.size
      have HM:=Lib.hid (HM.out.alloc (.cells #[.int .i64 0,.int .i64 0,.slice none 0 0,.int .i64 0,.int .i64 0,.slice none 0 0,.int .i64 0,.int .i64 0,.slice none 0 0] 58))
      obtain ⟨zb,hzb⟩:∃ zb,zb = w6.heap.size:=⟨_,rfl⟩
      rw [← hzb] at HZ LZ ⊢
      clear hzb
      generalize w6.alloc (.cells #[.int .i64 0,.int .i64 0,.slice none 0 0,.int .i64 0,.int .i64 0,.slice none 0 0,.int .i64 0,.int .i64 0,.slice none 0 0] 58) = w6 at HZ HM ⊢
      refine hK _ _ (HT.out.quiet HM.out) ?_
      clear hK K
      refine planF_loud rfl rfl (fun K hK=>?_)
      go_simp
      refine (HDF.out _ (HX.out.1.fa.quiet HM.out)).mono ?_
      rintro e w7 ⟨p,rfl,⟨ay,au,av,rfl,hfa7,ly,lu,lv⟩,hm7⟩
      have LY:=Nat.le_trans HM.out.size ly
      have LU:=Nat.le_trans HM.out.size lu
      have LV:=Nat.le_trans HM.out.size lv
      have HFA:=Lib.hid hfa7
      clear hfa7 ly lu lv
      have HM:=Lib.hid (HM.out.trans hm7)
      have hzl:=HZ.out.lt
      have NZ:ay ≠ zb ∧ au ≠ zb ∧ av ≠ zb:=by have a:=HFA.out.by_;have b:=HFA.out.bu;have c:=HFA.out.bv;exact ⟨a.ne_ (HZ.out.keep hm7 (fun h=>h)) (by decide),b.ne_ (HZ.out.keep hm7 (fun h=>h)) (by decide),c.ne_ (HZ.out.keep hm7 (fun h=>h)) (by decide)⟩
      have HZ:=Lib.hid (HZ.out.keep hm7 (fun h=>h))
      unfold frameV
      dsimp only []
      refine hK _ _ (HT.out.quiet HM.out) ?_
      clear hK K hm7
      refine planF_read (v:=.tuple #[.agg #[.int .i64 (d.W:Int),.int .i64 (d.H:Int),.slice (some ⟨ay,0,none⟩) d.nY d.nY,.int .i64 (d.W2:Int),.int .i64 (d.H2:Int),.slice (some ⟨au,0,none⟩) d.nC d.nC,.int .i64 (d.W2:Int),.int .i64 (d.H2:Int),.slice (some ⟨av,0,none⟩) d.nC d.nC],.int .i64 0]) rfl rfl rfl (fun _ _=>rfl) (fun K hK=>?_);go_simp;refine hK _ ?_;clear hK K
      refine planF_read (v:=.agg #[.int .i64 (d.W:Int),.int .i64 (d.H:Int),.slice (some ⟨ay,0,none⟩) d.nY d.nY,.int .i64 (d.W2:Int),.int .i64 (d.H2:Int),.slice (some ⟨au,0,none⟩) d.nC d.nC,.int .i64 (d.W2:Int),.int .i64 (d.H2:Int),.slice (some ⟨av,0,none⟩) d.nC d.nC]) rfl rfl rfl (fun _ _=>rfl) (fun K hK=>?_);go_simp;refine hK _ ?_;clear hK K
      refine planF_read (v:=.int .i64 0) rfl rfl rfl (fun _ _=>rfl) (fun K hK=>?_);go_simp;refine hK _ ?_;clear hK K
      refine planF_loud rfl rfl (fun K hK=>?_)
      rw [if_pos (by rfl)]
      refine wp_store_row 58 (.tmp 14) (.tmp 122) rfl zb [.int .i64 (d.W:Int),.int .i64 (d.H:Int),.slice (some ⟨ay,0,none⟩) d.nY d.nY,.int .i64 (d.W2:Int),.int .i64 (d.H2:Int),.slice (some ⟨au,0,none⟩) d.nC d.nC,.int .i64 (d.W2:Int),.int .i64 (d.H2:Int),.slice (some ⟨av,0,none⟩) d.nC d.nC] rfl rfl 58 [.int .i64 0,.int .i64 0,.slice none 0 0,.int .i64 0,.int .i64 0,.slice none 0 0,.int .i64 0,.int .i64 0,.slice none 0 0] HZ.out rfl (by kernel_rfl) (by kernel_rfl) (fun w9 hb9 hm9=>?_)
      go_simp
      refine hK _ _ ((HT.out.quiet HM.out).keep1 hm9 (by omega) (by omega) (by omega)) ?_
      clear hK K
      refine planF_read (v:=.int .i64 0) rfl rfl rfl (fun _ _=>rfl) (fun K hK=>?_);go_simp;refine hK _ ?_;clear hK K
      refine planF_done ?_
      go_wp2_with fail
      go_meet
      exact ⟨zb,ay,au,av,rfl,rfl,hb9,HFA.out.mod hm9 NZ.1 NZ.2.1 NZ.2.2,LZ,LY,LU,LV,NZ,HM.out.into hm9 (fun i e=>.inr (by omega))⟩
    case rest=>
     obtain ⟨zb,ay,au,av,rfl,rfl,hzb,hfa,LZ,LY,LU,LV,NZ,hmx⟩:=hcut
     rename World=>wx
     have hc8:=HX.out.1.quiet hmx
     have d30:wx.cell? ⟨cb,30,none⟩ = some (.pointer (some ⟨g2,0,none⟩)):=(hc8.cod.cell 30).trans (codV_29 (flV_len d A0 A1 A2 c0 c1 c2) HO.out.alen rfl).2
     have hb8:=HB3.out.2.1.keep hc8.mod (fun h=>h)
     have hx8:=HT.out.x.keep hmx (fun h=>h)
     have H8:=Lib.hid (And.intro hc8 (And.intro hb8 (And.intro hx8 (And.intro hzb hfa))))
     clear hc8 hb8 hx8 hzb hfa HDF
     go_wp2_with fail
     refine (eBytes _ g2 v1 X.2.code X.2.wide H8.out.1.eb.enc (by have:=HX.out.2.2;omega)).mono ?_
     rintro e w9 ⟨A8,n8,rfl,hin8,hm9⟩
     have hn8:n8 = X.2.code.length:=hin8.1.symm
     have hlc:=HX.out.2.2
     have HD:=Lib.hid (And.intro (bytes_whole (B:=w.heap.size) (H8.out.2.1.keep hm9 (fun h=>h)) HL.out (by have:=HHG.out;omega) (by have:=HHL.out;omega)) (And.intro hin8 (And.intro hm9 hn8)))
     have hw9:w.heap.size ≤ w9.heap.size:=by have z1:=HB3.out.1.mod.size;have z2:=H8.out.1.mod.size;have z3:=hm9.size;omega
     have hsum:(hdrB K nu q).length + n8 ≤ 400000:=by have z1:=HL.out;have z2:=HHL.out;omega
     have HSM:=Lib.hid hsum
     have HSM2:Hid ((hdrB K nu q ++ X.2.code).length ≤ 400000):=by have z:=HSM.out;show _ ≤ 400000;rw [List.length_append,← hn8];exact z
     clear hsum
     clear hin8 hm9 d30 hn8 hlc
     go_upto_region 26 with (at_builtin;have _t:=HD;refine wpList_app_u8s _ rfl _ (.tmp 131) rfl w.heap.size (.slice (some ⟨hg,0,none⟩) hl hl) (hdrB K nu q) A8 n8 n8 X.2.code rfl rfl HD.out.1 HD.out.2.1 hw9 (Nat.le_trans HSM.out (by decide)) ?_;intro v11 w11 hown hMa hMb hF;obtain ⟨A11,c11,hv11⟩:=own_shape hown;obtain ⟨m11,hm11⟩:∃ m,m = (hdrB K nu q ++ X.2.code).length:=⟨_,rfl⟩;rw [← hm11] at hv11;subst hv11;have HO11:=Lib.hid (And.intro hown (And.intro hMa (And.intro hMb (And.intro hF hm11))));clear hown hMa hMb hF hm11)
     have hMg:Mod (· = hg) w9 w11:=HO11.out.2.1.mono (fun i e=>by injection e with e;exact e.symm)
     have zi:wi.heap.size ≤ w9.heap.size:=Nat.le_trans hmx.size HD.out.2.2.1.size
     have zg:hg < wi.heap.size:=Nat.lt_of_lt_of_le HB3.out.2.1.lt HX.out.1.mod.size
     have zh:=HHG.out
     have hxA:Blk w11 g 250 [.int .i64 (d.W:Int),.int .i64 (d.H:Int),.int .i64 (G:Int),.int .i64 (q:Int),.int .i64 (tg:Int),.int .i64 (nu:Int),.int .i64 b0,.int .i64 b1,.slice B0 m0 d0,.int .i64 b3,.int .i64 b4,.slice B1 m1 d1,.int .i64 b6,.int .i64 b7,.slice B2 m2 d2].toArray:=(H8.out.2.2.1.keep HD.out.2.2.1 (fun h=>h)).keep hMg (by omega)
     have hzA:=(H8.out.2.2.2.1.keep HD.out.2.2.1 (fun h=>h)).keep hMg (by omega)
     have hfA:=(H8.out.2.2.2.2.quiet HD.out.2.2.1).mod hMg (by omega) (by omega) (by omega)
     have hrA:=(HRB.out.keep ((HX.out.1.mod.trans hmx).trans HD.out.2.2.1) (fun h=>h)).keep hMg (by omega)
     have hmA:Mod (· = g) w w11:=(((HB3.out.1.mod.trans HX.out.1.mod).trans hmx).trans HD.out.2.2.1).into hMg (fun i e=>.inr (by omega)) |>.mono (fun i e=>e.elim)
     have hoA:∀ j,(Value.slice A11 m11 c11).ownBlock = some j → j = hg ∨ (wi.heap.size ≤ j ∧ ay < j ∧ au < j ∧ av < j):=fun j hj=>by
      rcases HO11.out.2.2.2.1 j hj with h | h
      ·injection h with h;exact .inl h.symm
      ·have f1:=H8.out.2.2.2.2.by_.lt;have f2:=H8.out.2.2.2.2.bu.lt;have f3:=H8.out.2.2.2.2.bv.lt;have f4:=HD.out.2.2.1.size
       exact .inr (by omega)
     have zg2:g < w.heap.size:=hxl
     have hsw:w.heap.size + 2 < wi.heap.size:=Nat.lt_of_lt_of_le (by omega) (Nat.le_of_lt zg)
     obtain ⟨zc,zf⟩:=hzA.both
     have zl:=hzA.lt
     have HA:=Lib.hid (And.intro hxA (And.intro hzA (And.intro hfA (And.intro hrA (And.intro hmA (And.intro hoA (And.intro HO11.out.1 HO11.out.2.2.2.2)))))))
     clear hMg zi zg zh hxA hzA hfA hrA hmA hoA H8 HD HO11 hw9
     unfold frameV at zc
     go_upto_region 27 with (refine wpList_store_part rfl 58 (.tmp 136) (.tmp 134) rfl g 6 (frameV d ay au av) rfl rfl 250 _ HA.out.1 (by kernel_rfl) (by simp [frameV]) (frameV_one d ay au av) ?_;intro w12 hb12 hm12;have HB12:=Lib.hid (And.intro hb12 hm12);clear hb12 hm12)
     have hxB:Blk w12 g 250 (encV (d.W:Int) (d.H:Int) (G:Int) (q:Int) (tg:Int) (nu:Int) (frameV d ay au av)):=HB12.out.1
     clear zc zf zl
     have HGO:=Lib.hid (encGoOn w12 g (d.W:Int) (d.H:Int) G q tg nu m11 (frameV d ay au av) H0.out.2.2.2.2.2.2.2.2.2 hq ht (by have z1:=HA.out.2.2.2.2.2.2.2;have z2:=HSM2.out;omega) (by have:=H0.out.2.2.2.2.2.2.2.2.2;omega) hxB)
     clear hxB
     go_wp2_with fail
     refine HGO.out.mono ?_
     rintro e w13 ⟨rfl,hb13,hm13⟩
     have hm2:Mod (· = g) w11 w13:=HB12.out.2.trans hm13
     have zhg:=HHG.out
     have hzC:=HA.out.2.1.keep hm2 (by omega)
     have hfC:=HA.out.2.2.1.mod hm2 (by omega) (by omega) (by omega)
     have hrC:=HA.out.2.2.2.1.keep hm2 (by omega)
     have hmC:=HA.out.2.2.2.2.1.trans hm2
     have hoC:=HA.out.2.2.2.2.2.2.1.mod hm2 (fun j hj e=>by rcases HA.out.2.2.2.2.2.1 j hj with h | h <;> omega)
     have hCP:=pCopy w13 d H0.out.2.2.2.2.1 ay au av _ hfC
     unfold frameV at hCP
     obtain ⟨zc,zf⟩:=hzC.both
     have zl:=hzC.lt
     have hws:w.heap.size ≤ w13.heap.size:=hmC.size
     have zw:wi.heap.size ≤ w13.heap.size:=Nat.le_trans LZ (Nat.le_of_lt zl)
     have HC13:=Lib.hid (And.intro hCP (And.intro hfC (And.intro hrC (And.intro hmC (And.intro hoC hb13)))))
     clear hm2 hzC hfC hrC hmC hoC hCP hb13 hm13 HGO zhg
     unfold frameV at zc
     go_wp2_with fail
     refine HC13.out.1.mono ?_
     rintro e w14 ⟨p,rfl,⟨py,pu,pv,rfl,hfp,l1,l2,l3⟩,hm14⟩
     have hrD:=HC13.out.2.2.1.keep hm14 (fun h=>h)
     have hrl:=hrD.lt
     have HD14:=Lib.hid (And.intro hrD (And.intro hfp hm14))
     clear hrD hfp hm14 zc zf zl
     unfold frameV
     go_wp2_with (refine wpList_store_part rfl 58 (.tmp 5) (.tmp 143) rfl (w.heap.size + 1) 0 (frameV d py pu pv) rfl rfl 58 _ HD14.out.1 (by kernel_rfl) (by simp [frameV]) (frameV_one d py pu pv) ?_;intro w15 hb15 hm15;have HB15:=Lib.hid (And.intro hb15 hm15);clear hb15 hm15)
     have hb15:Blk w15 (w.heap.size + 1) 58 (frameV d py pu pv).toArray:=HB15.out.1
     have hm15:=HB15.out.2
     obtain ⟨rc,rf⟩:=hb15.both
     unfold frameV at rc
     have zhg:=HHG.out
     have hKn:=H0.out.2.2.2.2.2.2.2.2.1
     have hE:eframe d fr ahd nu q = (hdrB K nu q ++ X.2.code,smPix q d X.1):=by unfold eframe;rw [hKn,← HX.out.2.1]
     have hml:=HA.out.2.2.2.2.2.2.2
     refine bodyPost_ret (v:=.tuple #[.slice A11 m11 c11,.agg (frameV d py pu pv).toArray,.int .i64 0]) (by simp [results,Tryz.results97,go_sem,rc,frameV]) rfl ?_
     rw [hE]
     refine ⟨.slice A11 m11 c11,.agg (frameV d py pu pv).toArray,ay,au,av,rfl,?_,⟨py,pu,pv,rfl,HD14.out.2.1.mod hm15 (by omega) (by omega) (by omega),by omega,by omega,by omega⟩,?_,(HC13.out.2.1.quiet HD14.out.2.2).mod hm15 (by omega) (by omega) (by omega),⟨by omega,by omega,by omega⟩,?_,(HC13.out.2.2.2.1.trans (HD14.out.2.2.mono (fun _ h=>h.elim))).into hm15 (fun i e=>.inr (by omega))⟩
     ·exact (HC13.out.2.2.2.2.1.quiet HD14.out.2.2).mod hm15 (fun j hj e=>by rcases HA.out.2.2.2.2.2.1 j hj with h | h <;> omega)
     ·rw [← hml]
      exact (HC13.out.2.2.2.2.2.keep HD14.out.2.2 (fun h=>h)).keep hm15 (by omega)
     ·intro j hj
      rcases HA.out.2.2.2.2.2.1 j hj with h | h
      ·have zg:hg < wi.heap.size:=Nat.lt_of_lt_of_le HB3.out.2.1.lt HX.out.1.mod.size
       omega
      ·omega
end Go.Proofs.YthednemlahioeaaGreatDoor
