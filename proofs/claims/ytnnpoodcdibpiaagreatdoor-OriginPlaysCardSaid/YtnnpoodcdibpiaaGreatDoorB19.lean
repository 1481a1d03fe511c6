/-
  encoder: the kind of a square of a frame that is no key.
-/
import Derived.Test.YtnnpoodcdibpiaaGreatDoorB18
namespace Go.Proofs.YtnnpoodcdibpiaaGreatDoor
open Go.RowKit
set_option maxRecDepth 100000
set_option maxHeartbeats 8000000
def stillTo(d:Dim)(fr ahd:Pix)(sx sy:Nat):Nat->Nat
 | 0=>0
 | k+1=>stillTo d fr ahd sx sy k+farTo (sqL (d.wOf (pcP k)) (fr.get (pcP k)) (pcX (16*sx) k) (pcY (16*sy) k) 8) (sqL (d.wOf (pcP k)) (ahd.get (pcP k)) (pcX (16*sx) k) (pcY (16*sy) k) 8) 64
structure Kind where
 k:Nat
 vx:Int
 vy:Int
def kindS(d:Dim)(fr ahd:Pix)(Q:Int)(sx sy:Nat):Kind:=
 if(stillTo d fr ahd sx sy 6:Int)<=16*stepOf Q 0 0 then⟨0,0,0⟩
 else if(searchS d.W d.H ahd.Y (16*sx) (16*sy) (sqL d.W fr.Y (16*sx) (16*sy) 16)).far<=roughL (sqL d.W fr.Y (16*sx) (16*sy) 16)then
  ⟨1,(searchS d.W d.H ahd.Y (16*sx) (16*sy) (sqL d.W fr.Y (16*sx) (16*sy) 16)).vx,(searchS d.W d.H ahd.Y (16*sx) (16*sy) (sqL d.W fr.Y (16*sx) (16*sy) 16)).vy⟩
 else⟨2,0,0⟩
theorem kindS_facts(d:Dim)(fr ahd:Pix)(Q:Int)(sx sy:Nat):(kindS d fr ahd Q sx sy).k<3/\(-128<=(kindS d fr ahd Q sx sy).vx/\(kindS d fr ahd Q sx sy).vx<=128)/\(-128<=(kindS d fr ahd Q sx sy).vy/\(kindS d fr ahd Q sx sy).vy<=128)/\((kindS d fr ahd Q sx sy).k=0->(kindS d fr ahd Q sx sy).vx=0/\(kindS d fr ahd Q sx sy).vy=0):=by
 have h:=seTo_bd d.W d.H ahd.Y (16*sx) (16*sy) (sqL d.W fr.Y (16*sx) (16*sy) 16) 81 (Nat.le_refl _);unfold kindS searchS;split
 ·dsimp only;omega
 ·split
  ·dsimp only;omega
  ·dsimp only;omega
theorem stillTo_le(d:Dim)(fr ahd:Pix)(sx sy k:Nat):stillTo d fr ahd sx sy k<=k*16320:=by
 induction k with
 | zero=>exact Nat.le_refl _
 | succ k ih=>
  have:=farTo_le (sqL (d.wOf (pcP k)) (fr.get (pcP k)) (pcX (16*sx) k) (pcY (16*sy) k) 8) (sqL (d.wOf (pcP k)) (ahd.get (pcP k)) (pcX (16*sx) k) (pcY (16*sy) k) 8) 64;unfold stillTo;omega
def EChRel(w0 w:World)(rb cb bk g:Nat)(v:Value)(Q:Int)(d:Dim)(fl al:List Value)(gy gu gv:Nat)(f:Pix)(s:Es)(F:Nat->Nat)(v8 v19:Value)(wr:World):Prop:=
 ∃i:Nat,i<=6/\v19=.int .i64 (i:Int)/\v8=.int .i64 ((F i:Nat):Int)/\CW w0 wr cb bk g v false Q d fl al gy gu gv f s/\Sat (fun _=>False) w wr [⟨rb,307,#[.int .i64 0,.int .i64 0]⟩] []
def EChPost(w:World)(k:Kind)(e:Ending)(w':World):Prop:=e=.returned (.tuple #[.int .i64 (k.k:Int),.agg #[.int .i64 k.vx,.int .i64 k.vy]])/\Mod (fun _=>False) w w'
theorem eChoose(w0 w:World)(cb bk g:Nat)(v:Value)(Q:Int)(d:Dim)(fl:List Value)(fr:Pix)(al:List Value)(ahd:Pix)(gy gu gv:Nat)(f:Pix)(s:Es)(ho:Old w0 d false Q fl fr al ahd)(h:CW w0 w cb bk g v false Q d fl al gy gu gv f s)
  (sx sy:Nat)(hsx:16*sx+16<=d.W)(hsy:16*sy+16<=d.H):
  Calls Tryz.prog 243 #[.pointer (some ⟨cb,0,none⟩),.int .i64 (sx:Int),.int .i64 (sy:Int)] w (EChPost w (kindS d fr ahd Q sx sy)):=by
 obtain⟨_,_,hW,_,hH,_⟩:=area_le ho.ok.sides;have HS0:=(Sat.nil (fun _=>False) w).alloc 307 #[.int .i64 0,.int .i64 0] rfl;obtain⟨F,hF⟩:∃F,F=stillTo d fr ahd sx sy:=⟨_,rfl⟩
 have H0:=Lib.hid (And.intro ho (And.intro (h.quiet HS0.mod) (And.intro HS0 hF)));clear ho h HS0 hF;go_enter Tryz.func243,Tryz.ntmps243;go_wp2_with fail;go_loopw [8,19] (EChRel w0 w w.heap.size cb bk g v Q d fl al gy gu gv f s F) (fun _ i _=>6-(intOf i).toNat)
 case atStart=>exact⟨0,by omega,rfl,by rw [H0.out.2.2.2];rfl,H0.out.2.1,H0.out.2.2.1⟩
 case round=>
  obtain⟨i,hi,rfl,rfl,hcw,hsv⟩:=hrel;rename World=>w1
  by_cases hlt:i<6
  ·have d1:decide ((i:Int)<6)=true:=decide_eq_true (by omega);obtain⟨p1,p2,p3⟩:=pc_in H0.out.1.ok hlt hsx hsy;have hS1:=eSpot w1 (H0.out.1.env.quiet hcw.mod) i sx sy hlt (by omega) (by omega);have hFs:F (i+1)=F i+farTo (sqL (d.wOf (pcP i)) (fr.get (pcP i)) (pcX (16*sx) i) (pcY (16*sy) i) 8) (sqL (d.wOf (pcP i)) (ahd.get (pcP i)) (pcX (16*sx) i) (pcY (16*sy) i) 8) 64:=by rw [H0.out.2.2.2];rfl
   have hFb:F i<=97920:=by rw [H0.out.2.2.2];exact Nat.le_trans (stillTo_le d fr ahd sx sy i) (by omega)
   generalize pcP i=pl at *;generalize pcX (16*sx) i=x at *;generalize pcY (16*sy) i=y at *;obtain⟨W,hWe⟩:∃W,W=d.wOf pl:=⟨_,rfl⟩
   obtain⟨H,hHe⟩:∃H,H=d.hOf pl:=⟨_,rfl⟩
   obtain⟨n,hne⟩:∃n,n=d.nOf pl:=⟨_,rfl⟩
   obtain⟨hsd,hnn⟩:=H0.out.1.ok.nOf pl;rw [<-hWe]at p2 hFs;rw [<-hHe]at p3;rw [<-hWe,<-hHe]at hsd hnn;rw [<-hne]at hnn;obtain⟨t,ht⟩:∃t,t=F i:=⟨_,rfl⟩
   rw [<-ht]at hFs hFb ⊢;have H1:=Lib.hid (And.intro hcw (And.intro hsv (And.intro hFs (And.intro hWe (And.intro hHe (And.intro hne (And.intro hsd hnn)))))));obtain⟨_,hW2,hW3,hH2,hH3,_⟩:=area_le hsd;clear hcw hsv hFs hWe hHe hne hsd hnn ht;go_wp2_with fail;refine hS1.mono ?_;clear hS1;rintro e w2 ⟨rfl,hm2⟩;have hcw:=H1.out.1.quiet hm2;obtain⟨o2,eo2⟩:∃o2,2+pl*3=o2:=⟨_,rfl⟩
   obtain⟨o3,eo3⟩:∃o3,11+pl*3=o3:=⟨_,rfl⟩
   obtain⟨A2,cc2,b1,b2,b3,bin⟩:=hcw.frame H0.out.1 pl p1 o2 eo2;obtain⟨A3,cc3,a1,a2,a3,ain⟩:=hcw.ahead H0.out.1 pl p1 o3 eo3;rw [<-H1.out.2.2.2.1]at a1 b1;rw [<-H1.out.2.2.2.2.1]at a2 b2;rw [<-H1.out.2.2.2.2.2.1]at a3 b3 ain bin;have hR2:∀w':World,Blk w' cb 291 (codV false Q fl al (frameV d gy gu gv) bk g)->w'.rangeAt cb o2 [.int .i64 (W:Int),.int .i64 (H:Int),.slice A2 n cc2]:=fun w' hb=>hb.range o2 _ (ext3 ((hcw.cod.cell o2).symm.trans b1) ((hcw.cod.cell (o2+1)).symm.trans b2) ((hcw.cod.cell (o2+2)).symm.trans b3));have hR3:∀w':World,Blk w' cb 291 (codV false Q fl al (frameV d gy gu gv) bk g)->w'.rangeAt cb o3 [.int .i64 (W:Int),.int .i64 (H:Int),.slice A3 n cc3]:=fun w' hb=>hb.range o3 _ (ext3 ((hcw.cod.cell o3).symm.trans a1) ((hcw.cod.cell (o3+1)).symm.trans a2) ((hcw.cod.cell (o3+2)).symm.trans a3));have HR:=Lib.hid (And.intro hR2 hR3);have hS0:Hid (Blk w2.drew cb 291 (codV false Q fl al (frameV d gy gu gv) bk g)):=hcw.cod.drew;have H2:=Lib.hid (And.intro (hcw.quiet ((Mod.refl _ w2).drew)) (And.intro ((Sat.after hm2 H1.out.2.1).drew) (And.intro (bin.quiet ((Mod.refl _ w2).drew)) (ain.quiet ((Mod.refl _ w2).drew)))));clear hR2 hR3 ain bin hcw hm2 a1 a2 a3 b1 b2 b3;go_upto_region 6 with(fail)
   refine wp_region_planT [9,18,19] [0,1,2,3,4,5,6,7,8,10,11,12,13,14,15,16,17] (0 :: 1 :: 2 :: 3 :: 4 :: 5 :: 6 :: 7 :: 8 :: 10 :: 11 :: 12 :: 13 :: 14 :: 15 :: 16 :: 17 :: 9 :: 18 :: 19 :: 20 :: 21 :: []) (fun w'=>Blk w' cb 291 (codV false Q fl al (frameV d gy gu gv) bk g)) (by kernel_rfl) (by kernel_rfl) (fun _ _ _ d _ h=>by cases d<;>exact h) hS0.out ?_;refine planT_read (v:=.int .i64 (t:Int)) rfl rfl rfl (fun _ _=>rfl) (fun K hK=>?_);go_simp;refine hK _ ?_;clear hK K;refine planT_read (v:=.pointer (some ⟨cb,0,none⟩)) rfl rfl rfl (fun _ _=>rfl) (fun K hK=>?_);go_simp;refine hK _ ?_;clear hK K;refine planT_read (v:=.int .i64 (pl:Int)) rfl rfl rfl (fun _ _=>rfl) (fun K hK=>?_);go_simp;refine hK _ ?_;clear hK K;refine planT_read (v:=.pointer (some ⟨cb,0,none⟩)) rfl rfl rfl (fun _ _=>rfl) (fun K hK=>?_);go_simp;refine hK _ ?_;clear hK K;refine planT_read (v:=.pointer (some ⟨cb,2,none⟩)) rfl rfl rfl (fun _ _=>rfl) (fun K hK=>?_);go_simp;refine hK _ ?_;clear hK K;refine planT_idx rfl rfl _ _ _ rfl rfl (.pointer (some ⟨cb,2,none⟩)) (.int .i64 (pl:Int)) (.pointer (some ⟨cb,o2,none⟩)) rfl rfl (ix3 cb 2 pl o2 p1 eo2) (fun K hK=>?_);go_simp;refine hK _ ?_;clear hK K;refine planT_load rfl rfl _ _ rfl rfl cb o2 rfl [.int .i64 (W:Int),.int .i64 (H:Int),.slice A2 n cc2] _ (fun w' hS=>HR.out.1 w' hS) Tryz.underlying108 rfl (by kernel_rfl) (fun K hK=>?_);go_simp;refine hK _ ?_;clear hK K;refine planT_read (v:=.int .i64 (x:Int)) rfl rfl rfl (fun _ _=>rfl) (fun K hK=>?_);go_simp;refine hK _ ?_;clear hK K;refine planT_read (v:=.int .i64 (y:Int)) rfl rfl rfl (fun _ _=>rfl) (fun K hK=>?_);go_simp;refine hK _ ?_;clear hK K;refine planT_read (v:=.pointer (some ⟨cb,0,none⟩)) rfl rfl rfl (fun _ _=>rfl) (fun K hK=>?_);go_simp;refine hK _ ?_;clear hK K;refine planT_read (v:=.int .i64 (pl:Int)) rfl rfl rfl (fun _ _=>rfl) (fun K hK=>?_);go_simp;refine hK _ ?_;clear hK K;refine planT_read (v:=.pointer (some ⟨cb,0,none⟩)) rfl rfl rfl (fun _ _=>rfl) (fun K hK=>?_);go_simp;refine hK _ ?_;clear hK K;refine planT_read (v:=.pointer (some ⟨cb,11,none⟩)) rfl rfl rfl (fun _ _=>rfl) (fun K hK=>?_);go_simp;refine hK _ ?_;clear hK K;refine planT_idx rfl rfl _ _ _ rfl rfl (.pointer (some ⟨cb,11,none⟩)) (.int .i64 (pl:Int)) (.pointer (some ⟨cb,o3,none⟩)) rfl rfl (ix3 cb 11 pl o3 p1 eo3) (fun K hK=>?_);go_simp;refine hK _ ?_;clear hK K;refine planT_load rfl rfl _ _ rfl rfl cb o3 rfl [.int .i64 (W:Int),.int .i64 (H:Int),.slice A3 n cc3] _ (fun w' hS=>HR.out.2 w' hS) Tryz.underlying108 rfl (by kernel_rfl) (fun K hK=>?_);go_simp;refine hK _ ?_;clear hK K;refine planT_read (v:=.int .i64 (x:Int)) rfl rfl rfl (fun _ _=>rfl) (fun K hK=>?_);go_simp;refine hK _ ?_;clear hK K;refine planT_read (v:=.int .i64 (y:Int)) rfl rfl rfl (fun _ _=>rfl) (fun K hK=>?_);go_simp;refine hK _ ?_;clear hK K;generalize w2.drew=w2 at *;refine planT_loud rfl rfl (fun K hK=>?_);go_simp;refine(pBlock _ W H A2 n cc2 (fr.get pl) H1.out.2.2.2.2.2.2.1 H1.out.2.2.2.2.2.2.2 (by have:=H2.out.2.2.1;rwa [H1.out.2.2.2.2.2.2.2]at this) x y 8 p2 p3 (by omega) 64 rfl).mono ?_;rintro e w3 ⟨g3,rfl,hb3,hg3,hm3⟩;have hcw3:=H2.out.1.quiet hm3;have H3:=Lib.hid (And.intro hcw3 (And.intro (Sat.after hm3 H2.out.2.1) (And.intro (blkIn hb3 (sqL_length _ _ _ _ _) (by omega)) (H2.out.2.2.2.quiet hm3))));clear hb3 hg3 hm3;dsimp only [];refine hK _ _ hcw3.cod ?_;clear hK K hcw3;refine planT_loud rfl rfl (fun K hK=>?_);go_simp;refine(pBlock _ W H A3 n cc3 (ahd.get pl) H1.out.2.2.2.2.2.2.1 H1.out.2.2.2.2.2.2.2 (by have:=H3.out.2.2.2;rwa [H1.out.2.2.2.2.2.2.2]at this) x y 8 p2 p3 (by omega) 64 rfl).mono ?_;rintro e w4 ⟨g4,rfl,hb4,hg4,hm4⟩;have hcw4:=H3.out.1.quiet hm4;have H4:=Lib.hid (And.intro hcw4 (And.intro (Sat.after hm4 H3.out.2.1) (And.intro (H3.out.2.2.1.quiet hm4) (blkIn hb4 (sqL_length _ _ _ _ _) (by omega)))));clear hb4 hg4 hm4;dsimp only [];refine hK _ _ hcw4.cod ?_;clear hK K hcw4;refine planT_loud rfl rfl (fun K hK=>?_);go_simp;refine(eApart _ (some ⟨g3,0,none⟩) 64 64 _ (some ⟨g4,0,none⟩) 64 _ H4.out.2.2.1 H4.out.2.2.2 (by omega) (by omega)).mono ?_;rintro e w5 ⟨rfl,hm5⟩;have hcw5:=H4.out.1.quiet hm5;have H5:=Lib.hid (And.intro hcw5 (Sat.after hm5 H4.out.2.1));have hfl:=farTo_le (sqL W (fr.get pl) x y 8) (sqL W (ahd.get pl) x y 8) 64;have HF2:=Lib.hid H1.out.2.2.1;generalize farTo (sqL W (fr.get pl) x y 8) (sqL W (ahd.get pl) x y 8) 64=z at *;clear hm5;dsimp only [];refine hK _ _ hcw5.cod ?_;clear hK K hcw5;refine planT_still rfl rfl (fun K hK=>?_);go_simp;refine hK _ ?_;clear hK K;refine planT_still rfl rfl (fun K hK=>?_);go_simp;refine hK _ ?_;clear hK K;refine planT_done ?_;go_wp2_with fail;go_roundw
   case rel=>exact⟨i+1,by omega,by go_num,congrArg (Value.int .i64) (by rw [HF2.out,IntWalk.i64_in _ ⟨by omega,by omega⟩];omega),H5.out.1,H5.out.2⟩
   case measure=>simp [intOf];omega
  ·obtain rfl:i=6:=by omega
   have hq:=H0.out.1.q;have hst:stepOk Q 0 0=true:=by unfold stepOk;rw [decide_eq_true_eq];omega
   obtain⟨st,hste⟩:∃st,st=stepOf Q 0 0:=⟨_,rfl⟩
   have hsb:=step_le hq (x:=0) (y:=0) ⟨by omega,by omega⟩ ⟨by omega,by omega⟩;have hFb:F 6<=97920:=by rw [H0.out.2.2.2];exact stillTo_le d fr ahd sx sy 6
   have hQS:=quantStep_yes w1 Q 0 0 hst;rw [<-hste]at hsb hQS;have hc0:w1.cell? ⟨cb,0,none⟩=some (.int .i64 Q):=hcw.cod.cell 0;have hcb:=hcw.cod.lt;have hKS:kindS d fr ahd Q sx sy=kindS d fr ahd Q sx sy:=rfl
   conv at hKS=>rhs;unfold kindS
   rw [<-hste,<-H0.out.2.2.2]at hKS;generalize F 6=t at *;have H6:=Lib.hid (And.intro hcw (And.intro hsv (And.intro hKS hQS)));clear hcw hsv hKS hQS hste hst hq;go_wp2_with fail;refine H6.out.2.2.2.mono ?_;rintro e w2 ⟨rfl,rfl⟩;by_cases hle:(t:Int)<=16*st
   ·have d2:decide ((t:Int)<=16*st)=true:=decide_eq_true hle;have HKS:=Lib.hid (H6.out.2.2.1.trans (if_pos hle));obtain⟨rc,rf⟩:=(H6.out.2.1.own_ 0 rfl).both;have rl:=(H6.out.2.1.own_ 0 rfl).lt;dsimp only at rc rf rl;go_wp2_with fail;have hs2:=(H6.out.2.1.put (i:=0) (u:=.int .i64 0) (.here rfl)).put (i:=1) (u:=.int .i64 0) (.here rfl);generalize (w1.setCell ⟨w.heap.size,0,none⟩ (.int .i64 0)).setCell ⟨w.heap.size,1,none⟩ (.int .i64 0)=w5 at *;obtain⟨rc2,rf2⟩:=(hs2.own_ 0 rfl).both;dsimp only at rc2;exact bodyPost_ret (v:=.tuple #[.int .i64 0,.agg #[.int .i64 0,.int .i64 0]]) (by simp [results,Tryz.results243,go_sem,rc2]) rfl ⟨by rw [HKS.out];rfl,hs2.mod⟩
   ·have d2:decide ((t:Int)<=16*st)=false:=decide_eq_false hle;have hKS2:=H6.out.2.2.1.trans (if_neg hle);obtain⟨A2,cc2,b1,b2,b3,bin⟩:=H6.out.1.frame H0.out.1 0 (by omega) 2 rfl;change w1.cell? _=some (.int .i64 (d.W:Int))at b1;change w1.cell? _=some (.int .i64 (d.H:Int))at b2;change w1.cell? _=some (.slice A2 d.nY cc2)at b3;have bin':BytesIn w1 A2 (d.W*d.H) cc2 fr.Y:=by rw [<-H0.out.1.ok.ny];exact bin
    have x16:(16:Int)*(sx:Int)=((16*sx:Nat):Int):=by omega
    have y16:(16:Int)*(sy:Int)=((16*sy:Nat):Int):=by omega
    obtain⟨x,hx⟩:∃x,x=16*sx:=⟨_,rfl⟩
    obtain⟨y,hy⟩:∃y,y=16*sy:=⟨_,rfl⟩
    rw [<-hx]at x16 hKS2 hsx;rw [<-hy]at y16 hKS2 hsy;have hnx:IntKind.i64.wrap (x:Int)=(x:Int):=IntWalk.i64_in _ ⟨by omega,by omega⟩;have HX:=Lib.hid (And.intro hKS2 (And.intro bin' (And.intro hx hy)));clear hKS2 bin bin' hx hy;go_wp2_with fail;refine(pBlock _ d.W d.H A2 d.nY cc2 fr.Y H0.out.1.ok.sides H0.out.1.ok.ny HX.out.2.1 x y 16 hsx hsy (by omega) 256 rfl).mono ?_;rintro e w3 ⟨g3,rfl,hb3,hg3,hm3⟩;have hcw3:=H6.out.1.quiet hm3;obtain⟨bs,hbs⟩:∃bs,bs=sqL d.W fr.Y x y 16:=⟨_,rfl⟩
    rw [<-hbs]at hb3;have hbl:bs.length=256:=by rw [hbs,sqL_length]
    obtain⟨A3,cc3,a1,a2,a3,ain⟩:=hcw3.ahead H0.out.1 0 (by omega) 11 rfl;change w3.cell? _=some (.int .i64 (d.W:Int))at a1;change w3.cell? _=some (.int .i64 (d.H:Int))at a2;change w3.cell? _=some (.slice A3 d.nY cc3)at a3;have ain':BytesIn w3 A3 (d.W*d.H) cc3 ahd.Y:=by rw [<-H0.out.1.ok.ny];exact ain
    have H3:=Lib.hid (And.intro hcw3 (And.intro (Sat.after hm3 H6.out.2.1) (And.intro (blkIn hb3 hbl (by omega)) (And.intro ain' hbs))));clear hb3 hg3 hm3 hcw3 ain ain' hbs hbl b1 b2 b3 hc0;go_wp2_with fail;refine(mSearch _ d.W d.H A3 d.nY cc3 ahd.Y H0.out.1.ok.sides H0.out.1.ok.ny H3.out.2.2.2.1 x y hsx hsy (some ⟨g3,0,none⟩) 256 bs H3.out.2.2.1).mono ?_;rintro e w4 ⟨A4,rfl,hm4⟩;obtain⟨fd,hfd⟩:∃fd,fd=searchS d.W d.H ahd.Y x y bs:=⟨_,rfl⟩
    rw [<-hfd];have hfb:=(seTo_bd d.W d.H ahd.Y x y bs 81 (Nat.le_refl _)).2.2;have hfe:seTo d.W d.H ahd.Y x y bs 81=fd:=hfd.symm;rw [hfe]at hfb;have hK:=HX.out.1;rw [<-H3.out.2.2.2.2,<-hfd]at hK;have hs4:=(Sat.after hm4 H3.out.2.1)
    have H4:=Lib.hid (And.intro (hs4.alloc 307 #[.int .i64 fd.vx,.int .i64 fd.vy] rfl) (And.intro (H3.out.2.2.1.quiet (hm4.alloc (.cells #[.int .i64 fd.vx,.int .i64 fd.vy] 307))) hK));clear hm4 hfd hfe hK hs4 a1 a2 a3;go_upto_region 13 with(fail)
    generalize w4.alloc (.cells #[.int .i64 fd.vx,.int .i64 fd.vy] 307)=w5 at *;go_wp2_with fail;refine(eRough _ (some ⟨g3,0,none⟩) 256 bs H4.out.2.1).mono ?_;rintro e w6 ⟨rfl,rfl⟩;have hrl:=roughL_le bs;obtain⟨rg,hrg⟩:∃rg,rg=roughL bs:=⟨_,rfl⟩
    have hK:=H4.out.2.2;rw [<-hrg]at hK hrl ⊢;have HK:=Lib.hid hK;clear hK hrg;obtain⟨rc,rf⟩:=(H4.out.1.own_ 1 rfl).both;have rl:=(H4.out.1.own_ 1 rfl).lt;obtain⟨vc,vf⟩:=(H4.out.1.own_ 0 rfl).both;dsimp only at rc rf rl vc;by_cases hfr:fd.far<=rg
    ·have d3:decide ((fd.far:Int)<=(rg:Int))=true:=decide_eq_true (by omega);have HKS:=Lib.hid (HK.out.trans (if_pos hfr));go_upto_region 14 with(fail)
     refine wp_region_plan [2] [] [0,1,2] (by kernel_rfl) (by kernel_rfl) (fun _ _ _ d _ h=>by cases d<;>exact h) ?_;refine plan_still rfl rfl (fun K hK=>?_);go_simp;refine hK _ ?_;clear hK K;refine plan_still rfl rfl (fun K hK=>?_);go_simp;refine hK _ ?_;clear hK K;refine plan_loud rfl rfl (fun K hK=>?_);go_simp;refine hK _ _ ?_;clear hK K;refine plan_done ?_;go_wp2_with fail;have hs2:=((H4.out.1.put (i:=0) (u:=.int .i64 fd.vx) (.there (.here rfl))).put (i:=1) (u:=.int .i64 fd.vy) (.there (.here rfl))).drew;generalize ((w5.setCell ⟨w.heap.size,0,none⟩ (.int .i64 fd.vx)).setCell ⟨w.heap.size,1,none⟩ (.int .i64 fd.vy)).drew=w7 at *;obtain⟨rc2,rf2⟩:=(hs2.own_ 1 rfl).both;dsimp only at rc2;exact bodyPost_ret (v:=.tuple #[.int .i64 1,.agg #[.int .i64 fd.vx,.int .i64 fd.vy]]) (by simp [results,Tryz.results243,go_sem,rc2]) rfl ⟨by rw [HKS.out];rfl,hs2.mod⟩
    ·have d3:decide ((fd.far:Int)<=(rg:Int))=false:=decide_eq_false (by omega);have HKS:=Lib.hid (HK.out.trans (if_neg hfr));go_wp2_with fail;have hs2:=(H4.out.1.put (i:=0) (u:=.int .i64 0) (.there (.here rfl))).put (i:=1) (u:=.int .i64 0) (.there (.here rfl));generalize (w5.setCell ⟨w.heap.size,0,none⟩ (.int .i64 0)).setCell ⟨w.heap.size,1,none⟩ (.int .i64 0)=w7 at *;obtain⟨rc2,rf2⟩:=(hs2.own_ 1 rfl).both;dsimp only at rc2;exact bodyPost_ret (v:=.tuple #[.int .i64 2,.agg #[.int .i64 0,.int .i64 0]]) (by simp [results,Tryz.results243,go_sem,rc2]) rfl ⟨by rw [HKS.out];rfl,hs2.mod⟩
def eblkTo(d:Dim)(fr ahd:Pix)(kind:Nat)(Q:Int)(sx sy:Nat)(vx vy:Int)(f:Pix)(s:Es):Nat->Pix × Es
 | 0=>(f,s)
 | k+1=>eblkS d fr ahd kind Q (pcP k) (pcX (16*sx) k) (pcY (16*sy) k) vx vy (eblkTo d fr ahd kind Q sx sy vx vy f s k).1 (eblkTo d fr ahd kind Q sx sy vx vy f s k).2
def ekind(d:Dim)(fr ahd:Pix)(K:Bool)(Q:Int)(sx sy:Nat):Kind:=if K=true then⟨2,0,0⟩else kindS d fr ahd Q sx sy
def ekput(K:Bool)(k:Nat)(s:Es):Es:=if K=true then s else elow 1 k 2 0 0 s
def evput(k:Kind)(s:Es):Es:=if k.k=1 then esigned 7 k.vy (esigned 6 k.vx s)else s
def esquareS(d:Dim)(fr ahd:Pix)(K:Bool)(Q:Int)(sx sy:Nat)(f:Pix)(s:Es):Pix × Es:=
 let k:=ekind d fr ahd K Q sx sy
 eblkTo d fr ahd k.k Q sx sy k.vx k.vy f (evput k (ekput K k.k s)) 6
theorem ekind_facts(d:Dim)(fr ahd:Pix)(K:Bool)(Q:Int)(sx sy:Nat):(ekind d fr ahd K Q sx sy).k<3/\(-128<=(ekind d fr ahd K Q sx sy).vx/\(ekind d fr ahd K Q sx sy).vx<=128)/\(-128<=(ekind d fr ahd K Q sx sy).vy/\(ekind d fr ahd K Q sx sy).vy<=128)/\((ekind d fr ahd K Q sx sy).k=0->(ekind d fr ahd K Q sx sy).vx=0/\(ekind d fr ahd K Q sx sy).vy=0)/\(K=true->(ekind d fr ahd K Q sx sy).k=2):=by
 unfold ekind;split
 ·refine⟨by decide,⟨by decide,by decide⟩,⟨by decide,by decide⟩,fun h=>⟨rfl,rfl⟩,fun _=>rfl⟩
 ·rename_i h;obtain⟨h1,h2,h3,h4⟩:=kindS_facts d fr ahd Q sx sy;exact⟨h1,h2,h3,h4,fun e=>absurd e h⟩
theorem within_mono{M N:Int}{l:List Int}(h:Within M l)(hMN:M<=N):Within N l:=fun i=>by have:=h i;omega
theorem eblkS_len{d:Dim}{fr ahd:Pix}{kind:Nat}{Q:Int}(hq:0<=Q/\Q<=31)(pl x y:Nat)(vx vy:Int)(f:Pix)(s:Es):s.code.length<=(eblkS d fr ahd kind Q pl x y vx vy f s).2.code.length/\(eblkS d fr ahd kind Q pl x y vx vy f s).2.code.length<=s.code.length+2732:=by
 unfold eblkS;dsimp only;split
 ·dsimp only;omega
 ·dsimp only;have hb:(sqL (d.wOf pl) (fr.get pl) x y 8).length=64:=by rw [sqL_length]
  have h1:=eblk_len (t:=if 0<pl then 4 else 2) (within_mono (elev_within (gs:=(egof kind (d.wOf pl) (d.hOf pl) (f.get pl) (ahd.get pl) x y pl vx vy (sqL (d.wOf pl) (fr.get pl) x y 8) s).1) hb hq) (by omega)) (egof kind (d.wOf pl) (d.hOf pl) (f.get pl) (ahd.get pl) x y pl vx vy (sqL (d.wOf pl) (fr.get pl) x y 8) s).2;have h2:s.code.length<=(egof kind (d.wOf pl) (d.hOf pl) (f.get pl) (ahd.get pl) x y pl vx vy (sqL (d.wOf pl) (fr.get pl) x y 8) s).2.code.length/\(egof kind (d.wOf pl) (d.hOf pl) (f.get pl) (ahd.get pl) x y pl vx vy (sqL (d.wOf pl) (fr.get pl) x y 8) s).2.code.length<=s.code.length+2:=by
   unfold egof;split
   ·exact elow_len _ _ _ _ _ _
   ·dsimp only;omega
  omega
theorem eblkTo_len{d:Dim}{fr ahd:Pix}{kind:Nat}{Q:Int}(hq:0<=Q/\Q<=31)(sx sy:Nat)(vx vy:Int)(f:Pix)(s:Es)(k:Nat):s.code.length<=(eblkTo d fr ahd kind Q sx sy vx vy f s k).2.code.length/\(eblkTo d fr ahd kind Q sx sy vx vy f s k).2.code.length<=s.code.length+2732*k:=by
 induction k with
 | zero=>exact⟨Nat.le_refl _,Nat.le_refl _⟩
 | succ k ih=>
  have:=eblkS_len (d:=d) (fr:=fr) (ahd:=ahd) (kind:=kind) hq (pcP k) (pcX (16*sx) k) (pcY (16*sy) k) vx vy (eblkTo d fr ahd kind Q sx sy vx vy f s k).1 (eblkTo d fr ahd kind Q sx sy vx vy f s k).2;unfold eblkTo;omega
theorem eput3_len{d:Dim}{fr ahd:Pix}{K:Bool}{Q:Int}(sx sy:Nat)(s:Es):s.code.length<=(ekput K (ekind d fr ahd K Q sx sy).k s).code.length/\(ekput K (ekind d fr ahd K Q sx sy).k s).code.length<=s.code.length+2 /\
  s.code.length<=(evput (ekind d fr ahd K Q sx sy) (ekput K (ekind d fr ahd K Q sx sy).k s)).code.length/\(evput (ekind d fr ahd K Q sx sy) (ekput K (ekind d fr ahd K Q sx sy).k s)).code.length<=s.code.length+86:=by
 obtain⟨h1,h2,h3,_,_⟩:=ekind_facts d fr ahd K Q sx sy;generalize ekind d fr ahd K Q sx sy=k at *;have h4:s.code.length<=(ekput K k.k s).code.length/\(ekput K k.k s).code.length<=s.code.length+2:=by
  unfold ekput;split
  ·omega
  ·exact elow_len _ _ _ _ _ _
 refine⟨h4.1,h4.2,?_⟩;unfold evput;split
 ·have a:=esigned_len (t:=6) (x:=k.vx) (by omega) (ekput K k.k s);have b:=esigned_len (t:=7) (x:=k.vy) (by omega) (esigned 6 k.vx (ekput K k.k s));omega
 ·omega
theorem esquareS_len{d:Dim}{fr ahd:Pix}{K:Bool}{Q:Int}(hq:0<=Q/\Q<=31)(sx sy:Nat)(f:Pix)(s:Es):s.code.length<=(esquareS d fr ahd K Q sx sy f s).2.code.length/\(esquareS d fr ahd K Q sx sy f s).2.code.length<=s.code.length+16500:=by
 have h1:=eput3_len (d:=d) (fr:=fr) (ahd:=ahd) (K:=K) (Q:=Q) sx sy s;have h2:=eblkTo_len (d:=d) (fr:=fr) (ahd:=ahd) (kind:=(ekind d fr ahd K Q sx sy).k) hq sx sy (ekind d fr ahd K Q sx sy).vx (ekind d fr ahd K Q sx sy).vy f (evput (ekind d fr ahd K Q sx sy) (ekput K (ekind d fr ahd K Q sx sy).k s)) 6;unfold esquareS;dsimp only;omega
theorem KV.fresh{w w1 w2:World}{q:Nat}(h:KV w w1)(hm:Mod (·=q) w1 w2)(hq:w.heap.size<=q):KV w w2:=fun k t cs ht hb=>(h k t cs ht hb).keep hm (fun e=>by have:=hb.lt;omega)
def ESqRel(w0 w:World)(vb cb bk g:Nat)(K:Bool)(Q:Int)(d:Dim)(fl al:List Value)(gy gu gv:Nat)(f:Pix)(s:Es)(kd:Kind)(fr ahd:Pix)(sx sy:Nat)(v56:Value)(wr:World):Prop:=
 ∃(i:Nat) (v:Value),i<=6/\v56=.int .i64 (i:Int)/\CW w0 wr cb bk g v K Q d fl al gy gu gv (eblkTo d fr ahd kd.k Q sx sy kd.vx kd.vy f s i).1 (eblkTo d fr ahd kd.k Q sx sy kd.vx kd.vy f s i).2/\Blk wr vb 307 #[.int .i64 kd.vx,.int .i64 kd.vy]/\KV w wr
def ESqCut2(w0 w:World)(vb cb bk g:Nat)(K:Bool)(Q:Int)(d:Dim)(fl al:List Value)(gy gu gv:Nat)(f:Pix)(s2:Es)(kd:Kind)(wr:World):Prop:=
 ∃v:Value,CW w0 wr cb bk g v K Q d fl al gy gu gv f s2/\Blk wr vb 307 #[.int .i64 kd.vx,.int .i64 kd.vy]/\KV w wr
def ESqCut(w0 w:World)(vb cb bk g:Nat)(K:Bool)(Q:Int)(d:Dim)(fl al:List Value)(gy gu gv:Nat)(f:Pix)(s:Es)(kd:Kind)(v6:Value)(wr:World):Prop:=
 ∃v:Value,v6=.int .i64 (kd.k:Int)/\CW w0 wr cb bk g v K Q d fl al gy gu gv f (ekput K kd.k s)/\Blk wr vb 307 #[.int .i64 kd.vx,.int .i64 kd.vy]/\KV w wr
theorem eSquare(w0 w:World)(cb bk g:Nat)(v:Value)(K:Bool)(Q:Int)(d:Dim)(fl:List Value)(fr:Pix)(al:List Value)(ahd:Pix)(gy gu gv:Nat)(f:Pix)(s:Es)(ho:Old w0 d K Q fl fr al ahd)(h:CW w0 w cb bk g v K Q d fl al gy gu gv f s)
  (sx sy:Nat)(hsx:16*sx+16<=d.W)(hsy:16*sy+16<=d.H)(hl:s.code.length+20000<=1048575):
  Calls Tryz.prog 183 #[.pointer (some ⟨cb,0,none⟩),.int .i64 (sx:Int),.int .i64 (sy:Int)] w (EbkPost w0 w cb bk g K Q d fl al gy gu gv (esquareS d fr ahd K Q sx sy f s)):=by
 obtain⟨kd,hkd⟩:∃kd,kd=ekind d fr ahd K Q sx sy:=⟨_,rfl⟩
 have hkf:=ekind_facts d fr ahd K Q sx sy;have hln:=eput3_len (d:=d) (fr:=fr) (ahd:=ahd) (K:=K) (Q:=Q) sx sy s;have hR:esquareS d fr ahd K Q sx sy f s=eblkTo d fr ahd kd.k Q sx sy kd.vx kd.vy f (evput kd (ekput K kd.k s)) 6:=by rw [hkd];rfl
 rw [<-hkd]at hkf hln;have HS0:=(Sat.nil (fun _=>False) w).alloc 307 #[.int .i64 0,.int .i64 0] rfl;have hcw:=h.quiet HS0.mod;have hw0:w0.heap.size<=w.heap.size:=h.mod.size;have H0:=Lib.hid (And.intro ho (And.intro hcw (And.intro (HS0.own_ 0 rfl) (And.intro hkd (And.intro hkf (And.intro hln (And.intro hR (KV.of_mod HS0.mod))))))));obtain⟨_,_,hW,_,hH,_⟩:=area_le ho.ok.sides;clear ho h hkd hkf hln hR hcw HS0;go_enter Tryz.func183,Tryz.ntmps183;go_upto_region 1 with(fail)
 generalize w.alloc (.cells #[.int .i64 0,.int .i64 0] 307)=w1 at *;have hk1:w1.cell? ⟨cb,1,none⟩=some (.bool K):=H0.out.2.1.cod.cell 1;go_upto_if 14 with(fail)
 go_cut [6] (fun v6 wx=>ESqCut w0 w w.heap.size cb bk g K Q d fl al gy gu gv f s kd v6 wx)
 case first=>
  cases K
  ·go_wp2_with fail;refine(eChoose w0 _ cb bk g v Q d fl fr al ahd gy gu gv f s H0.out.1 H0.out.2.1 sx sy hsx hsy).mono ?_;rintro e w2 ⟨rfl,hm2⟩;have hke:kindS d fr ahd Q sx sy=kd:=by rw [H0.out.2.2.2.1];rfl
   rw [hke];have hc2:=H0.out.2.1.quiet hm2;have hb2:=H0.out.2.2.1.keep hm2 (fun h=>h);obtain⟨vc,vf⟩:=hb2.both;have vl:=hb2.lt;obtain⟨kk,hkk⟩:∃kk,kk=kd.k:=⟨_,rfl⟩
   obtain⟨kx,hkx⟩:∃kx,kx=kd.vx:=⟨_,rfl⟩
   obtain⟨ky,hky⟩:∃ky,ky=kd.vy:=⟨_,rfl⟩
   rw [<-hkk,<-hkx,<-hky];have HK2:=Lib.hid (H0.out.2.2.2.2.2.2.2.quiet hm2);have H2:=Lib.hid (And.intro hc2 (And.intro hb2 (And.intro hkk (And.intro hkx hky))));have hk3:kk<3:=by rw [hkk];exact H0.out.2.2.2.2.1.1
   clear hm2 hc2 hb2 hkk hkx hky hke hk1;go_upto_region 3 with(fail)
   have hm3:Mod (·=w.heap.size) w2 ((w2.setCell ⟨w.heap.size,0,none⟩ (.int .i64 kx)).setCell ⟨w.heap.size,1,none⟩ (.int .i64 ky)):=((Mod.refl (·=w.heap.size) w2).setCell (.inl rfl) _).setCell (.inl rfl) _;have hc3:=H2.out.1.vec H2.out.2.1 hw0 hm3;have hb3:Blk ((w2.setCell ⟨w.heap.size,0,none⟩ (.int .i64 kx)).setCell ⟨w.heap.size,1,none⟩ (.int .i64 ky)) w.heap.size 307 #[.int .i64 kx,.int .i64 ky]:=(((Sat.own1 H2.out.2.1).put (.here rfl)).put (.here rfl)).own_ 0 rfl;generalize (w2.setCell ⟨w.heap.size,0,none⟩ (.int .i64 kx)).setCell ⟨w.heap.size,1,none⟩ (.int .i64 ky)=w3 at *;have d9:w3.cell? ⟨cb,29,none⟩=some (.pointer (some ⟨bk,0,none⟩)):=(hc3.cod.cell 29).trans (codV_29 H0.out.1.frm.len H0.out.1.alen rfl).1;have d10:w3.cell? ⟨cb,30,none⟩=some (.pointer (some ⟨g,0,none⟩)):=(hc3.cod.cell 30).trans (codV_29 H0.out.1.frm.len H0.out.1.alen rfl).2;have HK3:=Lib.hid (HK2.out.fresh hm3 (Nat.le_refl _));have H3:=Lib.hid (And.intro hc3 hb3);clear hm3 hc3 hb3 vc vf vl HK2;refine wp_region_plan [9] [] [0,1,2,3,4,5,6,7,8,9] (by kernel_rfl) (by kernel_rfl) (fun _ _ _ d _ h=>by cases d<;>exact h) ?_;iterate 9 (refine plan_still rfl rfl (fun K hK=>?_);go_simp;refine hK _ ?_;clear hK K)
   refine plan_loud rfl rfl (fun K1 hK1=>?_);go_simp;have hmd:Mod (fun _=>False) w3 w3.drew:=(Mod.refl _ w3).drew;have hcd:=H3.out.1.quiet hmd;refine(ebOne _ bk g v s 1 3 kk (by omega) (.inl rfl) hk3 hcd.eb (by omega)).mono ?_;rintro e w4 hp;have hM4:Mod (fun j=>j=g\/j=bk\/v.ownBlock=some j) w3.drew w4:=by obtain⟨_,_,_,_,h⟩:=hp;exact h
   have hfr:¬(w.heap.size=g\/w.heap.size=bk\/v.ownBlock=some w.heap.size):=by
    rintro(e|e|e)
    ·exact H3.out.2.ne_ H3.out.1.eb.enc.blk (by decide) e
    ·exact H3.out.2.ne_ H3.out.1.eb.bk_ (by decide) e
    ·exact own_ne_blk H3.out.1.eb.enc.own H3.out.2 (by decide) e
   obtain⟨v4,rfl,hc4⟩:=hcd.puts hp;have hb4:=H3.out.2.drew.keep hM4 hfr;have HK4:=Lib.hid ((HK3.out.quiet hmd).puts hcd.eb hM4);have H4:=Lib.hid (And.intro hc4 hb4);clear hp hM4 hfr hc4 hb4 hcd hmd d9 d10;dsimp only [];refine hK1 _ _ ?_;clear hK1 K1;refine plan_done ?_;go_wp2_with fail;go_meet;refine⟨v4,by rw [H2.out.2.2.1],?_,by rw [<-H2.out.2.2.2.1,<-H2.out.2.2.2.2];exact H4.out.2,HK4.out⟩;unfold ekput;rw [if_neg (by decide),<-H2.out.2.2.1];exact H4.out.1
  ·go_wp2_with fail;go_meet;have hke:kd=⟨2,0,0⟩:=H0.out.2.2.2.1;exact⟨v,by rw [hke];rfl,H0.out.2.1,by rw [hke];exact H0.out.2.2.1,H0.out.2.2.2.2.2.2.2⟩
 case rest=>
  obtain⟨v,rfl,hcw,hvb,hkv⟩:=hcut;have HK2:=Lib.hid hkv;clear hkv;rename World=>w2
  clear hk1;obtain⟨s1,hs1⟩:∃s1,s1=ekput K kd.k s:=⟨_,rfl⟩
  rw [<-hs1]at hcw;have hln:=H0.out.2.2.2.2.2.1;rw [<-hs1]at hln;obtain⟨hk3,hkx,hky,hk0,hK2⟩:=H0.out.2.2.2.2.1;obtain⟨kk,hkk⟩:∃kk,kk=kd.k:=⟨_,rfl⟩
  rw [<-hkk]at hk3 hk0 hK2 ⊢;have H2:=Lib.hid (And.intro hcw hvb);have HKK:=Lib.hid (And.intro hs1 (And.intro hkk (And.intro hk0 hK2)));have hl1:s1.code.length+19900<=1048575:=by omega
  have hl2:(evput kd s1).code.length+19900<=1048575:=by omega
  have HL:=Lib.hid hl2;clear hcw hvb hs1 hln hkk hk0 hK2 hl2;go_upto_if 33 with(fail)
  go_cut [] (fun wx=>ESqCut2 w0 w w.heap.size cb bk g K Q d fl al gy gu gv f (evput kd s1) kd wx)
  case first=>
   by_cases h1:kk=1
   ·have d1:((kk:Int) == 1)=true:=by simp;omega
    have HK1:=Lib.hid h1;clear h1;obtain⟨vx,hvx⟩:∃vx,vx=kd.vx:=⟨_,rfl⟩
    obtain⟨vy,hvy⟩:∃vy,vy=kd.vy:=⟨_,rfl⟩
    rw [<-hvx,<-hvy]at H2;rw [<-hvx]at hkx;rw [<-hvy]at hky;have HV:=Lib.hid (And.intro hvx hvy);clear hvx hvy;have d9:w2.cell? ⟨cb,29,none⟩=some (.pointer (some ⟨bk,0,none⟩)):=(H2.out.1.cod.cell 29).trans (codV_29 H0.out.1.frm.len H0.out.1.alen rfl).1;have d10:w2.cell? ⟨cb,30,none⟩=some (.pointer (some ⟨g,0,none⟩)):=(H2.out.1.cod.cell 30).trans (codV_29 H0.out.1.frm.len H0.out.1.alen rfl).2;have vc:w2.cell? ⟨w.heap.size,0,none⟩=some (.int .i64 vx):=H2.out.2.cell 0;go_upto_region 5 with(fail)
    refine wp_region_plan [10] [] [0,1,2,3,4,5,6,7,8,9,10] (by kernel_rfl) (by kernel_rfl) (fun _ _ _ d _ h=>by cases d<;>exact h) ?_;iterate 10 (refine plan_still rfl rfl (fun K hK=>?_);go_simp;refine hK _ ?_;clear hK K)
    refine plan_loud rfl rfl (fun K1 hK1=>?_);go_simp;have hmd:Mod (fun _=>False) w2 w2.drew:=(Mod.refl _ w2).drew;have hcd:=H2.out.1.quiet hmd;refine(ebSigned _ bk g _ s1 6 vx (by omega) (by omega) hcd.eb (by omega)).mono ?_;rintro e w3 hp;have hM4:Mod (fun j=>j=g\/j=bk\/v.ownBlock=some j) w2.drew w3:=by obtain⟨_,_,_,_,h⟩:=hp;exact h
    have hfr:¬(w.heap.size=g\/w.heap.size=bk\/v.ownBlock=some w.heap.size):=by
     rintro(e|e|e)
     ·exact H2.out.2.ne_ H2.out.1.eb.enc.blk (by decide) e
     ·exact H2.out.2.ne_ H2.out.1.eb.bk_ (by decide) e
     ·exact own_ne_blk H2.out.1.eb.enc.own H2.out.2 (by decide) e
    obtain⟨v3,rfl,hc4⟩:=hcd.puts hp;have hb4:=H2.out.2.drew.keep hM4 hfr;have HK3:=Lib.hid ((HK2.out.quiet hmd).puts hcd.eb hM4);have H3:=Lib.hid (And.intro hc4 hb4);clear hp hM4 hfr hc4 hb4 hcd hmd d9 d10 vc;dsimp only [];refine hK1 _ _ ?_;clear hK1 K1;refine plan_done ?_;have hls:=esigned_len (t:=6) (x:=vx) (by omega) s1;have d9:w3.cell? ⟨cb,29,none⟩=some (.pointer (some ⟨bk,0,none⟩)):=(H3.out.1.cod.cell 29).trans (codV_29 H0.out.1.frm.len H0.out.1.alen rfl).1;have d10:w3.cell? ⟨cb,30,none⟩=some (.pointer (some ⟨g,0,none⟩)):=(H3.out.1.cod.cell 30).trans (codV_29 H0.out.1.frm.len H0.out.1.alen rfl).2;have vc:w3.cell? ⟨w.heap.size,1,none⟩=some (.int .i64 vy):=H3.out.2.cell 1;go_upto_region 6 with(fail)
    refine wp_region_plan [10] [] [0,1,2,3,4,5,6,7,8,9,10] (by kernel_rfl) (by kernel_rfl) (fun _ _ _ d _ h=>by cases d<;>exact h) ?_;iterate 10 (refine plan_still rfl rfl (fun K hK=>?_);go_simp;refine hK _ ?_;clear hK K)
    refine plan_loud rfl rfl (fun K1 hK1=>?_);go_simp;have hmd:Mod (fun _=>False) w3 w3.drew:=(Mod.refl _ w3).drew;have hcd:=H3.out.1.quiet hmd;refine(ebSigned _ bk g _ _ 7 vy (by omega) (by omega) hcd.eb (by omega)).mono ?_;rintro e w4 hp;have hM4:Mod (fun j=>j=g\/j=bk\/v3.ownBlock=some j) w3.drew w4:=by obtain⟨_,_,_,_,h⟩:=hp;exact h
    have hfr:¬(w.heap.size=g\/w.heap.size=bk\/v3.ownBlock=some w.heap.size):=by
     rintro(e|e|e)
     ·exact H3.out.2.ne_ H3.out.1.eb.enc.blk (by decide) e
     ·exact H3.out.2.ne_ H3.out.1.eb.bk_ (by decide) e
     ·exact own_ne_blk H3.out.1.eb.enc.own H3.out.2 (by decide) e
    obtain⟨v4,rfl,hc4⟩:=hcd.puts hp;have hb4:=H3.out.2.drew.keep hM4 hfr;have HK4:=Lib.hid ((HK3.out.quiet hmd).puts hcd.eb hM4);have H4:=Lib.hid (And.intro hc4 hb4);clear hp hM4 hfr hc4 hb4 hcd hmd d9 d10 vc;dsimp only [];refine hK1 _ _ ?_;clear hK1 K1;refine plan_done ?_;go_wp2_with fail;go_meet;refine⟨v4,?_,by rw [<-HV.out.1,<-HV.out.2];exact H4.out.2,HK4.out⟩;unfold evput;rw [if_pos (by rw [<-HKK.out.2.1];exact HK1.out),<-HV.out.1,<-HV.out.2];exact H4.out.1
   ·have d1:((kk:Int) == 1)=false:=by simp;omega
    go_wp2_with fail;go_meet;refine⟨v,?_,H2.out.2,HK2.out⟩;unfold evput;rw [if_neg (by rw [<-HKK.out.2.1];exact h1)];exact H2.out.1
  case rest=>
   clear H2 HK2;obtain⟨v,hcw,hvb,hkv⟩:=hcut;rename World=>w3
   have hR:=H0.out.2.2.2.2.2.2.1;rw [<-HKK.out.1]at hR;generalize evput kd s1=s2 at *;have H3:=Lib.hid (And.intro hcw (And.intro hvb (And.intro hR hkv)));clear hcw hvb hR hkv;go_wp2_with fail;go_loopw [56] (ESqRel w0 w w.heap.size cb bk g K Q d fl al gy gu gv f s2 kd fr ahd sx sy) (fun i _=>6-(intOf i).toNat)
   case atStart=>exact⟨0,v,by omega,rfl,H3.out.1,H3.out.2.1,H3.out.2.2.2⟩
   case round=>
    rename World=>wr
    obtain⟨i,v5,hi,rfl,hcw,hvb,hkv⟩:=hrel;by_cases hlt:i<6
    ·have d2:decide ((i:Int)<6)=true:=decide_eq_true (by omega);have hle:=eblkTo_len (d:=d) (fr:=fr) (ahd:=ahd) (kind:=kd.k) H0.out.1.q sx sy kd.vx kd.vy f s2 i;obtain⟨vc,vf⟩:=hvb.both;have hBL:=eBlock w0 wr cb bk g v5 K Q d fl fr al ahd gy gu gv _ _ H0.out.1 hcw i sx sy hlt hsx hsy kd.k (by rw [<-HKK.out.2.1];exact hk3) (fun e=>by rw [<-HKK.out.2.1];exact HKK.out.2.2.2 e) kd.vx kd.vy hkx hky (fun e=>HKK.out.2.2.1 (by rw [HKK.out.2.1];exact e)) (by have:=HL.out;omega);have hst:eblkTo d fr ahd kd.k Q sx sy kd.vx kd.vy f s2 (i+1)=eblkS d fr ahd kd.k Q (pcP i) (pcX (16*sx) i) (pcY (16*sy) i) kd.vx kd.vy (eblkTo d fr ahd kd.k Q sx sy kd.vx kd.vy f s2 i).1 (eblkTo d fr ahd kd.k Q sx sy kd.vx kd.vy f s2 i).2:=rfl;rw [<-hst,<-HKK.out.2.1]at hBL;have HB:=Lib.hid (And.intro hBL (And.intro hvb hkv));clear hBL hst hle hcw hvb hkv;obtain⟨vx,hvx⟩:∃vx,vx=kd.vx:=⟨_,rfl⟩
     obtain⟨vy,hvy⟩:∃vy,vy=kd.vy:=⟨_,rfl⟩
     have hB1:=HB.out.1;rw [<-hvx,<-hvy]at vc hB1;have HB1:=Lib.hid hB1;have vc0:=vc 0;have vc1:=vc 1;have HVV:=Lib.hid (And.intro hvx hvy);clear hvx hvy hB1 vc vf;go_wp2_with fail;refine HB1.out.mono ?_;rintro e w6 ⟨rfl,⟨v6,hc6⟩,hk6⟩;have HB6:=Lib.hid (And.intro hc6 (And.intro (hk6 _ _ _ ⟨by decide,by decide,by decide⟩ HB.out.2.1) (HB.out.2.2.trans hk6)));clear hc6 hk6 vc0 vc1;go_wp2_with fail;go_roundw
     case rel=>exact⟨i+1,v6,by omega,by go_num,by rw [<-HVV.out.1,<-HVV.out.2,<-HKK.out.2.1];exact HB6.out.1,HB6.out.2.1,HB6.out.2.2⟩
     case measure=>simp [intOf];omega
    ·obtain rfl:i=6:=by omega
     have HF:=Lib.hid (And.intro hcw hkv);clear hcw hvb hkv;go_wp2_with fail;go_end0
     refine⟨rfl,⟨v5,?_⟩,HF.out.2⟩;rw [H3.out.2.2.1];exact HF.out.1
end Go.Proofs.YtnnpoodcdibpiaaGreatDoor
