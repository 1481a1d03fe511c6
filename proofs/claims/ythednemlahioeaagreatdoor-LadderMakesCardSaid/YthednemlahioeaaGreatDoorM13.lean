/-
  encoder: the kind of a square of a frame that is no key.
-/
import Derived.Test.YthednemlahioeaaGreatDoorM12
namespace Go.Proofs.YthednemlahioeaaGreatDoor
open Go.RowKit
open Nat renaming le_refl→ZY
open Sat renaming after→Zw
open And renaming intro→Z9
open Lib renaming hid→Z7
open Go.Proofs.Tryz
set_option maxRecDepth 100000
set_option maxHeartbeats 8000000
def Ki(d:Yz)(fr Y7:Yy)(sx sy:Nat):Nat->Nat
 | 0=>0
 | k+1=>Ki d fr Y7 sx sy k+UZ (Pv (d.T9 (U5 k)) (fr.get (U5 k)) (QO (16*sx) k) (QP (16*sy) k) 8) (Pv (d.T9 (U5 k)) (Y7.get (U5 k)) (QO (16*sx) k) (QP (16*sy) k) 8) 64
structure Kind where
 k:Nat
 vx:Int
 vy:Int
def RI(d:Yz)(fr Y7:Yy)(Q:Int)(sx sy:Nat):Kind:=
 if(Ki d fr Y7 sx sy 6:Int)<=16*stepOf Q 0 0 then⟨0,0,0⟩
 else if(TU d.W d.H Y7.Y (16*sx) (16*sy) (Pv d.W fr.Y (16*sx) (16*sy) 16)).far<=Mk (Pv d.W fr.Y (16*sx) (16*sy) 16)then
  ⟨1,(TU d.W d.H Y7.Y (16*sx) (16*sy) (Pv d.W fr.Y (16*sx) (16*sy) 16)).vx,(TU d.W d.H Y7.Y (16*sx) (16*sy) (Pv d.W fr.Y (16*sx) (16*sy) 16)).vy⟩
 else⟨2,0,0⟩
theorem aa2(d:Yz)(fr Y7:Yy)(Q:Int)(sx sy:Nat):(RI d fr Y7 Q sx sy).k<3/\(-128<=(RI d fr Y7 Q sx sy).vx/\(RI d fr Y7 Q sx sy).vx<=128)/\(-128<=(RI d fr Y7 Q sx sy).vy/\(RI d fr Y7 Q sx sy).vy<=128)/\((RI d fr Y7 Q sx sy).k=0->(RI d fr Y7 Q sx sy).vx=0/\(RI d fr Y7 Q sx sy).vy=0):=by
 have h:=IE d.W d.H Y7.Y (16*sx) (16*sy) (Pv d.W fr.Y (16*sx) (16*sy) 16) 81 (ZY _);unfold RI TU;split
 ·dsimp only;omega
 ·split
  ·dsimp only;omega
  ·dsimp only;omega
theorem Jq(d:Yz)(fr Y7:Yy)(sx sy k:Nat):Ki d fr Y7 sx sy k<=k*16320:=by
 induction k with
 | zero=>exact ZY _
 | succ k ih=>
  have:=Ot (Pv (d.T9 (U5 k)) (fr.get (U5 k)) (QO (16*sx) k) (QP (16*sy) k) 8) (Pv (d.T9 (U5 k)) (Y7.get (U5 k)) (QO (16*sx) k) (QP (16*sy) k) 8) 64;unfold Ki;omega
def ahB(w0 w:World)(rb cb bk g:Nat)(v:Value)(Q:Int)(d:Yz)(fl al:List Value)(gy gu gv:Nat)(f:Yy)(s:Es)(F:Nat->Nat)(v8 v19:Value)(wr:World):Prop:=
 ∃i:Nat,i<=6/\v19=↑i/\v8=↑(F i:Nat)/\CW w0 wr cb bk g v false Q d fl al gy gu gv f s/\Sat ↑ZW w wr [⟨rb,273,#[↑Z0,↑Z0]⟩] []
def yJ(w:World)(k:Kind)(e:Ending)(w':World):Prop:=e=.returned (.tuple #[↑k.k,.agg #[↑k.vx,↑k.vy]])/\Mod ↑ZW w w'
theorem ae7(w0 w:World)(cb bk g:Nat)(v:Value)(Q:Int)(d:Yz)(fl:List Value)(fr:Yy)(al:List Value)(Y7:Yy)(gy gu gv:Nat)(f:Yy)(s:Es)(ho:Old w0 d false Q fl fr al Y7)(h:CW w0 w cb bk g v false Q d fl al gy gu gv f s)
  (sx sy:Nat)(vQ:16*sx+16<=d.W)(vR:16*sy+16<=d.H):
  Calls prog 212 #[↑(ZC cb 0),↑sx,↑sy] w (yJ w (RI d fr Y7 Q sx sy)):=by
 obtain⟨_,_,hW,_,hH,_⟩:=YB ho.ok.sides;have M8:=(Sat.nil ↑ZW w).alloc 273 #[↑Z0,↑Z0] rfl;obtain⟨F,hF⟩:=ZL (Ki d fr Y7 sx sy);have H0:=Z5 ho (Z9 (h.quiet M8.mod) (Z9 M8 hF));clear ho h M8 hF;go_enter func212,ntmps212;go_wp2_with fail;go_loopw [8,19] (ahB w0 w w.heap.size cb bk g v Q d fl al gy gu gv f s F) (fun _ i _=>6-(intOf i).toNat)
 case atStart=>exact⟨0,Z8,rfl,by rw [H0.out.2.2.2];rfl,H0.out.2.1,H0.out.2.2.1⟩
 case round=>
  obtain⟨i,hi,rfl,rfl,hcw,yE⟩:=hrel;rename World=>w1
  by_cases hlt:i<6
  ·have d1:=Zb ((i:Int)<6);obtain⟨p1,p2,p3⟩:=tu H0.out.1.ok hlt vQ vR;have hS1:=dA w1 (H0.out.1.env.quiet hcw.mod) i sx sy hlt Z8 Z8;have hFs:F (i+1)=F i+UZ (Pv (d.T9 (U5 i)) (fr.get (U5 i)) (QO (16*sx) i) (QP (16*sy) i) 8) (Pv (d.T9 (U5 i)) (Y7.get (U5 i)) (QO (16*sx) i) (QP (16*sy) i) 8) 64:=by rw [H0.out.2.2.2];rfl
   have hFb:F i<=97920:=by rw [H0.out.2.2.2];exact Nat.le_trans (Jq d fr Y7 sx sy i) Z8
   generalize U5 i=pl at *;generalize QO (16*sx) i=x at *;generalize QP (16*sy) i=y at *;obtain⟨W,iA⟩:=ZL (d.T9 pl);obtain⟨H,ig⟩:=ZL (d.MN pl);obtain⟨n,hne⟩:=ZL (d.FE pl);obtain⟨Il,Na⟩:=H0.out.1.ok.FE pl;rw [<-iA]at p2 hFs;rw [<-ig]at p3;rw [<-iA,<-ig]at Il Na;rw [<-hne]at Na;obtain⟨t,ht⟩:=ZL (F i);rw [<-ht]at hFs hFb ⊢;have H1:=Z5 hcw (Z9 yE (Z9 hFs (Z9 iA (Z9 ig (Z9 hne (Z9 Il Na))))));obtain⟨_,hW2,hW3,qi,hH3,_⟩:=YB Il;clear hcw yE hFs iA ig hne Il Na ht;go_wp2_with fail;refine hS1.mono ?_;clear hS1;rintro e w2 ⟨rfl,Y3⟩;have hcw:=H1.out.1.quiet Y3;obtain⟨o2,eo2⟩:∃o2,2+pl*3=o2:=⟨_,rfl⟩
   obtain⟨o3,eo3⟩:∃o3,11+pl*3=o3:=⟨_,rfl⟩
   obtain⟨A2,kY,b1,b2,b3,bin⟩:=hcw.frame H0.out.1 pl p1 o2 eo2;obtain⟨A3,pY,a1,a2,a3,rA⟩:=hcw.ahead H0.out.1 pl p1 o3 eo3;rw [<-H1.out.2.2.2.1]at a1 b1;rw [<-H1.out.2.2.2.2.1]at a2 b2;rw [<-H1.out.2.2.2.2.2.1]at a3 b3 rA bin;have hR2:∀w':World,ZI w' cb 258 (Li false Q fl al (YF d gy gu gv) bk g)->w'.rangeAt cb o2 [↑W,↑H,.slice A2 n kY]:=fun w' hb=>hb.range o2 _ (gT ((hcw.Q4.cell o2).symm.trans b1) ((hcw.Q4.cell (o2+1)).symm.trans b2) ((hcw.Q4.cell (o2+2)).symm.trans b3));have hR3:∀w':World,ZI w' cb 258 (Li false Q fl al (YF d gy gu gv) bk g)->w'.rangeAt cb o3 [↑W,↑H,.slice A3 n pY]:=fun w' hb=>hb.range o3 _ (gT ((hcw.Q4.cell o3).symm.trans a1) ((hcw.Q4.cell (o3+1)).symm.trans a2) ((hcw.Q4.cell (o3+2)).symm.trans a3));have HR:=Z5 hR2 hR3;have hS0:Hid (ZI w2.drew cb 258 (Li false Q fl al (YF d gy gu gv) bk g)):=hcw.Q4.drew;have H2:=Z5 (hcw.quiet ((Mod.refl _ w2).drew)) (Z9 ((Zw Y3 H1.out.2.1).drew) (Z9 (bin.quiet ((Mod.refl _ w2).drew)) (rA.quiet ((Mod.refl _ w2).drew))));clear hR2 hR3 rA bin hcw Y3 a1 a2 a3 b1 b2 b3;go_upto_region 6 with(fail)
   refine XE [9,18,19] [0,1,2,3,4,5,6,7,8,10,11,12,13,14,15,16,17] (0 :: 1 :: 2 :: 3 :: 4 :: 5 :: 6 :: 7 :: 8 :: 10 :: 11 :: 12 :: 13 :: 14 :: 15 :: 16 :: 17 :: 9 :: 18 :: 19 :: 20 :: 21 :: []) (fun w'=>ZI w' cb 258 (Li false Q fl al (YF d gy gu gv) bk g)) ZR ZR Xc hS0.out ?_;refine Zk (v:=↑t) ?_;refine Zk (v:=↑(ZC cb 0)) ?_;refine Zk (v:=↑pl) ?_;refine Zk (v:=↑(ZC cb 0)) ?_;refine Zk (v:=↑(ZC cb 2)) ?_;refine VY rfl rfl _ _ _ rfl rfl ↑(ZC cb 2) ↑pl ↑(ZC cb o2) rfl rfl (ix3 cb 2 pl o2 p1 eo2) (Yp ?_);refine Yh rfl rfl _ _ rfl rfl cb o2 rfl [↑W,↑H,.slice A2 n kY] _ (fun w' hS=>HR.out.1 w' hS) underlying56 rfl ZR (Yp ?_);refine Zk (v:=↑x) ?_;refine Zk (v:=↑y) ?_;refine Zk (v:=↑(ZC cb 0)) ?_;refine Zk (v:=↑pl) ?_;refine Zk (v:=↑(ZC cb 0)) ?_;refine Zk (v:=↑(ZC cb 11)) ?_;refine VY rfl rfl _ _ _ rfl rfl ↑(ZC cb 11) ↑pl ↑(ZC cb o3) rfl rfl (ix3 cb 11 pl o3 p1 eo3) (Yp ?_);refine Yh rfl rfl _ _ rfl rfl cb o3 rfl [↑W,↑H,.slice A3 n pY] _ (fun w' hS=>HR.out.2 w' hS) underlying56 rfl ZR (Yp ?_);refine Zk (v:=↑x) ?_;refine Zk (v:=↑y) ?_;generalize w2.drew=w2 at *;refine TT rfl rfl (fun K hK=>?_);go_simp;refine(Aa _ W H A2 n kY (fr.get pl) H1.out.2.2.2.2.2.2.1 H1.out.2.2.2.2.2.2.2 (by have:=H2.out.2.2.1;rwa [H1.out.2.2.2.2.2.2.2]at this) x y 8 p2 p3 Z8 64 rfl).mono ?_;rintro e w3 ⟨g3,rfl,hb3,hg3,X7⟩;have uB:=H2.out.1.quiet X7;have H3:=Z5 uB (Z9 (Zw X7 H2.out.2.1) (Z9 (UF hb3 (VB _ _ _ _ _) Z8) (H2.out.2.2.2.quiet X7)));clear hb3 hg3 X7;dsimp only [];refine hK _ _ uB.Q4 ?_;clear hK K uB;refine TT rfl rfl (fun K hK=>?_);go_simp;refine(Aa _ W H A3 n pY (Y7.get pl) H1.out.2.2.2.2.2.2.1 H1.out.2.2.2.2.2.2.2 (by have:=H3.out.2.2.2;rwa [H1.out.2.2.2.2.2.2.2]at this) x y 8 p2 p3 Z8 64 rfl).mono ?_;rintro e w4 ⟨g4,rfl,hb4,hg4,Xl⟩;have uC:=H3.out.1.quiet Xl;have H4:=Z5 uC (Z9 (Zw Xl H3.out.2.1) (Z9 (H3.out.2.2.1.quiet Xl) (UF hb4 (VB _ _ _ _ _) Z8)));clear hb4 hg4 Xl;dsimp only [];refine hK _ _ uC.Q4 ?_;clear hK K uC;refine TT rfl rfl (fun K hK=>?_);go_simp;refine YX (agV _ (some ↑g3) 64 64 _ (some ↑g4) 64 _ H4.out.2.2.1 H4.out.2.2.2 Z8 Z8) fun w5 UR=>?_;have agq:=H4.out.1.quiet UR;have H5:=Z5 agq (Zw UR H4.out.2.1);have Md:=Ot (Pv W (fr.get pl) x y 8) (Pv W (Y7.get pl) x y 8) 64;have HF2:=Z7 H1.out.2.2.1;generalize UZ (Pv W (fr.get pl) x y 8) (Pv W (Y7.get pl) x y 8) 64=z at *;clear UR;dsimp only [];refine hK _ _ agq.Q4 ?_;clear hK K agq;refine RJ ?_;refine RJ ?_;refine Vz ?_;go_wp2_with fail;go_roundw
   case rel=>exact⟨i+1,Z8,Zr,congrArg (Value.int .i64) (by rw [HF2.out,IntWalk.i64_in _ ⟨Z8,Z8⟩];omega),H5.out.1,H5.out.2⟩
   case measure=>exact YD
  ·obtain rfl:i=6:=Z8;have hq:=H0.out.1.q;have hst:Wn Q 0 0=true:=by unfold Wn;rw [decide_eq_true_eq];omega
   obtain⟨st,aM⟩:=ZL (stepOf Q 0 0);have PH:=Ae hq (x:=0) (y:=0) ⟨Z8,Z8⟩ ⟨Z8,Z8⟩;have hFb:F 6<=97920:=by rw [H0.out.2.2.2];exact Jq d fr Y7 sx sy 6
   have hQS:=JF w1 Q 0 0 hst;rw [<-aM]at PH hQS;have hc0:w1.cell? ↑cb=some ↑Q:=hcw.Q4.cell 0;have hcb:=hcw.Q4.lt;have dS:RI d fr Y7 Q sx sy=RI d fr Y7 Q sx sy:=rfl
   conv at dS=>rhs;unfold RI
   rw [<-aM,<-H0.out.2.2.2]at dS;generalize F 6=t at *;have H6:=Z5 hcw (Z9 yE (Z9 dS hQS));clear hcw yE dS hQS aM hst hq;go_wp2_with fail;refine H6.out.2.2.2.mono ?_;rintro e w2 ⟨rfl,rfl⟩;by_cases hle:(t:Int)<=16*st
   ·have d2:decide ((t:Int)<=16*st)=true:=decide_eq_true hle;have HKS:=Z7 (H6.out.2.2.1.trans (if_pos hle));obtain⟨rc,rf⟩:=(H6.out.2.1.ZX 0 rfl).both;have rl:=(H6.out.2.1.ZX 0 rfl).lt;dsimp only at rc rf rl;go_wp2_with fail;have hs2:=(H6.out.2.1.put (i:=0) (u:=↑Z0) (.here rfl)).put (i:=1) (u:=↑Z0) (.here rfl);generalize (w1.setCell ↑w.heap.size ↑Z0).setCell ⟨w.heap.size,1,none⟩ ↑Z0=w5 at *;obtain⟨BQ,rf2⟩:=(hs2.ZX 0 rfl).both;dsimp only at BQ;exact bodyPost_ret (v:=.tuple #[↑Z0,.agg #[↑Z0,↑Z0]]) (by simp [results,results212,go_sem,BQ]) rfl ⟨by rw [HKS.out];rfl,hs2.mod⟩
   ·have d2:decide ((t:Int)<=16*st)=false:=decide_eq_false hle;have il:=H6.out.2.2.1.trans (if_neg hle);obtain⟨A2,kY,b1,b2,b3,bin⟩:=H6.out.1.frame H0.out.1 0 Z8 2 rfl;change w1.cell? _=some ↑d.W at b1;change w1.cell? _=some ↑d.H at b2;change w1.cell? _=some (.slice A2 d.nY kY)at b3;have ajv:BytesIn w1 A2 (d.W*d.H) kY fr.Y:=by rw [<-H0.out.1.ok.ny];exact bin
    have x16:(16:Int)*(sx:Int)=((16*sx:Nat):Int):=Z8;have y16:(16:Int)*(sy:Int)=((16*sy:Nat):Int):=Z8;obtain⟨x,hx⟩:=ZL (16*sx);obtain⟨y,hy⟩:=ZL (16*sy);rw [<-hx]at x16 il vQ;rw [<-hy]at y16 il vR;have qB:IntKind.i64.wrap (x:Int)=(x:Int):=IntWalk.i64_in _ ⟨Z8,Z8⟩;have HX:=Z5 il (Z9 ajv (Z9 hx hy));clear il bin ajv hx hy;go_wp2_with fail;refine(Aa _ d.W d.H A2 d.nY kY fr.Y H0.out.1.ok.sides H0.out.1.ok.ny HX.out.2.1 x y 16 vQ vR Z8 256 rfl).mono ?_;rintro e w3 ⟨g3,rfl,hb3,hg3,X7⟩;have uB:=H6.out.1.quiet X7;obtain⟨bs,Pw⟩:=ZL (Pv d.W fr.Y x y 16);rw [<-Pw]at hb3;have hbl:bs.length=256:=by rw [Pw,VB]
    obtain⟨A3,pY,a1,a2,a3,rA⟩:=uB.ahead H0.out.1 0 Z8 11 rfl;change w3.cell? _=some ↑d.W at a1;change w3.cell? _=some ↑d.H at a2;change w3.cell? _=some (.slice A3 d.nY pY)at a3;have ajy:BytesIn w3 A3 (d.W*d.H) pY Y7.Y:=by rw [<-H0.out.1.ok.ny];exact rA
    have H3:=Z5 uB (Z9 (Zw X7 H6.out.2.1) (Z9 (UF hb3 hbl Z8) (Z9 ajy Pw)));clear hb3 hg3 X7 uB rA ajy Pw hbl b1 b2 b3 hc0;go_wp2_with fail;refine(aeF _ d.W d.H A3 d.nY pY Y7.Y H0.out.1.ok.sides H0.out.1.ok.ny H3.out.2.2.2.1 x y vQ vR (some ↑g3) 256 bs H3.out.2.2.1).mono ?_;rintro e w4 ⟨A4,rfl,Xl⟩;obtain⟨fd,hfd⟩:=ZL (TU d.W d.H Y7.Y x y bs);rw [<-hfd];have Px:=(IE d.W d.H Y7.Y x y bs 81 (ZY _)).2.2;have hfe:O9 d.W d.H Y7.Y x y bs 81=fd:=hfd.symm;rw [hfe]at Px;have hK:=HX.out.1;rw [<-H3.out.2.2.2.2,<-hfd]at hK;have Bq:=(Zw Xl H3.out.2.1)
    have H4:=Z5 (Bq.alloc 273 #[.int .i64 fd.vx,.int .i64 fd.vy] rfl) (Z9 (H3.out.2.2.1.quiet (Xl.alloc (.cells #[.int .i64 fd.vx,.int .i64 fd.vy] 273))) hK);clear Xl hfd hfe hK Bq a1 a2 a3;go_upto_region 13 with(fail)
    generalize w4.alloc (.cells #[.int .i64 fd.vx,.int .i64 fd.vy] 273)=w5 at *;go_wp2_with fail;refine YH (agS _ (some ↑g3) 256 bs H4.out.2.1) ?_;have Lr:=ab2 bs;obtain⟨rg,hrg⟩:=ZL (Mk bs);have hK:=H4.out.2.2;rw [<-hrg]at hK Lr ⊢;have HK:=Z7 hK;clear hK hrg;obtain⟨rc,rf⟩:=(H4.out.1.ZX 1 rfl).both;have rl:=(H4.out.1.ZX 1 rfl).lt;obtain⟨vc,vf⟩:=(H4.out.1.ZX 0 rfl).both;dsimp only at rc rf rl vc;by_cases Oc:fd.far<=rg
    ·have d3:=Zb ((fd.far:Int)<=(rg:Int));have HKS:=Z7 (HK.out.trans (if_pos Oc));go_upto_region 14 with(fail)
     refine YK [2] [] [0,1,2] ZR ZR Xc ?_;refine Yd ?_;refine Yd ?_;refine XJ rfl rfl (fun K hK=>?_);go_simp;refine hK _ _ ?_;clear hK K;refine XD ?_;go_wp2_with fail;have hs2:=((H4.out.1.put (i:=0) (u:=.int .i64 fd.vx) (.there (.here rfl))).put (i:=1) (u:=.int .i64 fd.vy) (.there (.here rfl))).drew;generalize ((w5.setCell ↑w.heap.size (.int .i64 fd.vx)).setCell ⟨w.heap.size,1,none⟩ (.int .i64 fd.vy)).drew=w7 at *;obtain⟨BQ,rf2⟩:=(hs2.ZX 1 rfl).both;dsimp only at BQ;exact bodyPost_ret (v:=.tuple #[.int .i64 1,.agg #[.int .i64 fd.vx,.int .i64 fd.vy]]) (by simp [results,results212,go_sem,BQ]) rfl ⟨by rw [HKS.out];rfl,hs2.mod⟩
    ·have d3:=Za ((fd.far:Int)<=(rg:Int));have HKS:=Z7 (HK.out.trans (if_neg Oc));go_wp2_with fail;have hs2:=(H4.out.1.put (i:=0) (u:=↑Z0) (.there (.here rfl))).put (i:=1) (u:=↑Z0) (.there (.here rfl));generalize (w5.setCell ↑w.heap.size ↑Z0).setCell ⟨w.heap.size,1,none⟩ ↑Z0=w7 at *;obtain⟨BQ,rf2⟩:=(hs2.ZX 1 rfl).both;dsimp only at BQ;exact bodyPost_ret (v:=.tuple #[.int .i64 2,.agg #[↑Z0,↑Z0]]) (by simp [results,results212,go_sem,BQ]) rfl ⟨by rw [HKS.out];rfl,hs2.mod⟩
def RY(d:Yz)(fr Y7:Yy)(kind:Nat)(Q:Int)(sx sy:Nat)(vx vy:Int)(f:Yy)(s:Es):Nat->Yy × Es
 | 0=>(f,s)
 | k+1=>PU d fr Y7 kind Q (U5 k) (QO (16*sx) k) (QP (16*sy) k) vx vy (RY d fr Y7 kind Q sx sy vx vy f s k).1 (RY d fr Y7 kind Q sx sy vx vy f s k).2
def Tv(d:Yz)(fr Y7:Yy)(K:Bool)(Q:Int)(sx sy:Nat):Kind:=if K=true then⟨2,0,0⟩else RI d fr Y7 Q sx sy
def Rz(K:Bool)(k:Nat)(s:Es):Es:=if K=true then s else Qv 1 k 2 0 0 s
def Pm(k:Kind)(s:Es):Es:=if k.k=1 then VD 7 k.vy (VD 6 k.vx s)else s
def RD(d:Yz)(fr Y7:Yy)(K:Bool)(Q:Int)(sx sy:Nat)(f:Yy)(s:Es):Yy × Es:=
 let k:=Tv d fr Y7 K Q sx sy
 RY d fr Y7 k.k Q sx sy k.vx k.vy f (Pm k (Rz K k.k s)) 6
theorem Ku(d:Yz)(fr Y7:Yy)(K:Bool)(Q:Int)(sx sy:Nat):(Tv d fr Y7 K Q sx sy).k<3/\(-128<=(Tv d fr Y7 K Q sx sy).vx/\(Tv d fr Y7 K Q sx sy).vx<=128)/\(-128<=(Tv d fr Y7 K Q sx sy).vy/\(Tv d fr Y7 K Q sx sy).vy<=128)/\((Tv d fr Y7 K Q sx sy).k=0->(Tv d fr Y7 K Q sx sy).vx=0/\(Tv d fr Y7 K Q sx sy).vy=0)/\(K=true->(Tv d fr Y7 K Q sx sy).k=2):=by
 unfold Tv;split
 ·refine⟨ZU,⟨ZU,ZU⟩,⟨ZU,ZU⟩,fun h=>⟨rfl,rfl⟩,fun _=>rfl⟩
 ·rename_i h;obtain⟨h1,h2,h3,h4⟩:=aa2 d fr Y7 Q sx sy;exact⟨h1,h2,h3,h4,fun e=>absurd e h⟩
theorem aaC{M N:Int}{l:List Int}(h:Within M l)(hMN:M<=N):Within N l:=fun i=>by have:=h i;omega
theorem acs{d:Yz}{fr Y7:Yy}{kind:Nat}{Q:Int}(hq:0<=Q/\Q<=31)(pl x y:Nat)(vx vy:Int)(f:Yy)(s:Es):s.code.length<=(PU d fr Y7 kind Q pl x y vx vy f s).2.code.length/\(PU d fr Y7 kind Q pl x y vx vy f s).2.code.length<=s.code.length+2732:=by
 unfold PU;dsimp only;split
 ·dsimp only;omega
 ·dsimp only;have hb:(Pv (d.T9 pl) (fr.get pl) x y 8).length=64:=by rw [VB]
  have h1:=adF (t:=if 0<pl then 4 else 2) (aaC (Kv (gs:=(ze kind (d.T9 pl) (d.MN pl) (f.get pl) (Y7.get pl) x y pl vx vy (Pv (d.T9 pl) (fr.get pl) x y 8) s).1) hb hq) Z8) (ze kind (d.T9 pl) (d.MN pl) (f.get pl) (Y7.get pl) x y pl vx vy (Pv (d.T9 pl) (fr.get pl) x y 8) s).2;have h2:s.code.length<=(ze kind (d.T9 pl) (d.MN pl) (f.get pl) (Y7.get pl) x y pl vx vy (Pv (d.T9 pl) (fr.get pl) x y 8) s).2.code.length/\(ze kind (d.T9 pl) (d.MN pl) (f.get pl) (Y7.get pl) x y pl vx vy (Pv (d.T9 pl) (fr.get pl) x y 8) s).2.code.length<=s.code.length+2:=by
   unfold ze;split
   ·exact Kw _ _ _ _ _ _
   ·dsimp only;omega
  omega
theorem Ja{d:Yz}{fr Y7:Yy}{kind:Nat}{Q:Int}(hq:0<=Q/\Q<=31)(sx sy:Nat)(vx vy:Int)(f:Yy)(s:Es)(k:Nat):s.code.length<=(RY d fr Y7 kind Q sx sy vx vy f s k).2.code.length/\(RY d fr Y7 kind Q sx sy vx vy f s k).2.code.length<=s.code.length+2732*k:=by
 induction k with
 | zero=>exact⟨ZY _,ZY _⟩
 | succ k ih=>
  have:=acs (d:=d) (fr:=fr) (Y7:=Y7) (kind:=kind) hq (U5 k) (QO (16*sx) k) (QP (16*sy) k) vx vy (RY d fr Y7 kind Q sx sy vx vy f s k).1 (RY d fr Y7 kind Q sx sy vx vy f s k).2;unfold RY;omega
theorem Gc{d:Yz}{fr Y7:Yy}{K:Bool}{Q:Int}(sx sy:Nat)(s:Es):s.code.length<=(Rz K (Tv d fr Y7 K Q sx sy).k s).code.length/\(Rz K (Tv d fr Y7 K Q sx sy).k s).code.length<=s.code.length+2 /\
  s.code.length<=(Pm (Tv d fr Y7 K Q sx sy) (Rz K (Tv d fr Y7 K Q sx sy).k s)).code.length/\(Pm (Tv d fr Y7 K Q sx sy) (Rz K (Tv d fr Y7 K Q sx sy).k s)).code.length<=s.code.length+86:=by
 obtain⟨h1,h2,h3,_,_⟩:=Ku d fr Y7 K Q sx sy;generalize Tv d fr Y7 K Q sx sy=k at *;have h4:s.code.length<=(Rz K k.k s).code.length/\(Rz K k.k s).code.length<=s.code.length+2:=by
  unfold Rz;split
  ·omega
  ·exact Kw _ _ _ _ _ _
 refine⟨h4.1,h4.2,?_⟩;unfold Pm;split
 ·have a:=Sz (t:=6) (x:=k.vx) Z8 (Rz K k.k s);have b:=Sz (t:=7) (x:=k.vy) Z8 (VD 6 k.vx (Rz K k.k s));omega
 ·omega
theorem aaw{d:Yz}{fr Y7:Yy}{K:Bool}{Q:Int}(hq:0<=Q/\Q<=31)(sx sy:Nat)(f:Yy)(s:Es):s.code.length<=(RD d fr Y7 K Q sx sy f s).2.code.length/\(RD d fr Y7 K Q sx sy f s).2.code.length<=s.code.length+16500:=by
 have h1:=Gc (d:=d) (fr:=fr) (Y7:=Y7) (K:=K) (Q:=Q) sx sy s;have h2:=Ja (d:=d) (fr:=fr) (Y7:=Y7) (kind:=(Tv d fr Y7 K Q sx sy).k) hq sx sy (Tv d fr Y7 K Q sx sy).vx (Tv d fr Y7 K Q sx sy).vy f (Pm (Tv d fr Y7 K Q sx sy) (Rz K (Tv d fr Y7 K Q sx sy).k s)) 6;unfold RD;dsimp only;omega
theorem KV.fresh{w w1 w2:World}{q:Nat}(h:KV w w1)(hm:Mod (·=q) w1 w2)(hq:w.heap.size<=q):KV w w2:=fun k t cs ht hb=>(h k t cs ht hb).keep hm (fun e=>by have:=hb.lt;omega)
def ahy(w0 w:World)(vb cb bk g:Nat)(K:Bool)(Q:Int)(d:Yz)(fl al:List Value)(gy gu gv:Nat)(f:Yy)(s:Es)(kd:Kind)(fr Y7:Yy)(sx sy:Nat)(v56:Value)(wr:World):Prop:=
 ∃(i:Nat) (v:Value),i<=6/\v56=↑i/\CW w0 wr cb bk g v K Q d fl al gy gu gv (RY d fr Y7 kd.k Q sx sy kd.vx kd.vy f s i).1 (RY d fr Y7 kd.k Q sx sy kd.vx kd.vy f s i).2/\ZI wr vb 273 #[↑kd.vx,↑kd.vy]/\KV w wr
def afC(w0 w:World)(vb cb bk g:Nat)(K:Bool)(Q:Int)(d:Yz)(fl al:List Value)(gy gu gv:Nat)(f:Yy)(s2:Es)(kd:Kind)(wr:World):Prop:=
 ∃v:Value,CW w0 wr cb bk g v K Q d fl al gy gu gv f s2/\ZI wr vb 273 #[↑kd.vx,↑kd.vy]/\KV w wr
def ahz(w0 w:World)(vb cb bk g:Nat)(K:Bool)(Q:Int)(d:Yz)(fl al:List Value)(gy gu gv:Nat)(f:Yy)(s:Es)(kd:Kind)(v6:Value)(wr:World):Prop:=
 ∃v:Value,v6=↑kd.k/\CW w0 wr cb bk g v K Q d fl al gy gu gv f (Rz K kd.k s)/\ZI wr vb 273 #[↑kd.vx,↑kd.vy]/\KV w wr
theorem ae6(w0 w:World)(cb bk g:Nat)(v:Value)(K:Bool)(Q:Int)(d:Yz)(fl:List Value)(fr:Yy)(al:List Value)(Y7:Yy)(gy gu gv:Nat)(f:Yy)(s:Es)(ho:Old w0 d K Q fl fr al Y7)(h:CW w0 w cb bk g v K Q d fl al gy gu gv f s)
  (sx sy:Nat)(vQ:16*sx+16<=d.W)(vR:16*sy+16<=d.H)(hl:s.code.length+20000<=1048575):
  Calls prog 153 #[↑(ZC cb 0),↑sx,↑sy] w (yK w0 w cb bk g K Q d fl al gy gu gv (RD d fr Y7 K Q sx sy f s)):=by
 obtain⟨kd,yz⟩:=ZL (Tv d fr Y7 K Q sx sy);have vM:=Ku d fr Y7 K Q sx sy;have Fx:=Gc (d:=d) (fr:=fr) (Y7:=Y7) (K:=K) (Q:=Q) sx sy s;have hR:RD d fr Y7 K Q sx sy f s=RY d fr Y7 kd.k Q sx sy kd.vx kd.vy f (Pm kd (Rz K kd.k s)) 6:=by rw [yz];rfl
 rw [<-yz]at vM Fx;have M8:=(Sat.nil ↑ZW w).alloc 273 #[↑Z0,↑Z0] rfl;have hcw:=h.quiet M8.mod;have hw0:w0.heap.size<=w.heap.size:=h.mod.size;have H0:=Z5 ho (Z9 hcw (Z9 (M8.ZX 0 rfl) (Z9 yz (Z9 vM (Z9 Fx (Z9 hR (KV.DX M8.mod)))))));obtain⟨_,_,hW,_,hH,_⟩:=YB ho.ok.sides;clear ho h yz vM Fx hR hcw M8;go_enter func153,ntmps153;go_upto_region 1 with(fail)
 generalize w.alloc (.cells #[↑Z0,↑Z0] 273)=w1 at *;have zJ:w1.cell? ⟨cb,1,none⟩=some (.bool K):=H0.out.2.1.Q4.cell 1;go_upto_if 14 with(fail)
 go_cut [6] (fun v6 wx=>ahz w0 w w.heap.size cb bk g K Q d fl al gy gu gv f s kd v6 wx)
 case first=>
  cases K
  ·go_wp2_with fail;refine YX (ae7 w0 _ cb bk g v Q d fl fr al Y7 gy gu gv f s H0.out.1 H0.out.2.1 sx sy vQ vR) fun w2 Y3=>?_;have eP:RI d fr Y7 Q sx sy=kd:=by rw [H0.out.2.2.2.1];rfl
   rw [eP];have hc2:=H0.out.2.1.quiet Y3;have hb2:=H0.out.2.2.1.keep Y3 (fun h=>h);obtain⟨vc,vf⟩:=hb2.both;have vl:=hb2.lt;obtain⟨kk,yA⟩:=ZL (kd.k);obtain⟨kx,MB⟩:=ZL (kd.vx);obtain⟨ky,MC⟩:=ZL (kd.vy);rw [<-yA,<-MB,<-MC];have IV:=Z7 (H0.out.2.2.2.2.2.2.2.quiet Y3);have H2:=Z5 hc2 (Z9 hb2 (Z9 yA (Z9 MB MC)));have hk3:kk<3:=by rw [yA];exact H0.out.2.2.2.2.1.1
   clear Y3 hc2 hb2 yA MB MC eP zJ;go_upto_region 3 with(fail)
   have X7:Mod (·=w.heap.size) w2 ((w2.setCell ↑w.heap.size (.int .i64 kx)).setCell ⟨w.heap.size,1,none⟩ (.int .i64 ky)):=((Mod.refl (·=w.heap.size) w2).setCell (.inl rfl) _).setCell (.inl rfl) _;have hc3:=H2.out.1.vec H2.out.2.1 hw0 X7;have hb3:ZI ((w2.setCell ↑w.heap.size (.int .i64 kx)).setCell ⟨w.heap.size,1,none⟩ (.int .i64 ky)) w.heap.size 273 #[.int .i64 kx,.int .i64 ky]:=(((Sat.bP H2.out.2.1).put (.here rfl)).put (.here rfl)).ZX 0 rfl;generalize (w2.setCell ↑w.heap.size (.int .i64 kx)).setCell ⟨w.heap.size,1,none⟩ (.int .i64 ky)=w3 at *;have d9:w3.cell? ⟨cb,29,none⟩=some ↑(ZC bk 0):=(hc3.Q4.cell 29).trans (Qd H0.out.1.qd.len H0.out.1.EP rfl).1;have d10:w3.cell? ⟨cb,30,none⟩=some ↑(ZC g 0):=(hc3.Q4.cell 30).trans (Qd H0.out.1.qd.len H0.out.1.EP rfl).2;have Ey:=Z7 (IV.out.fresh X7 (ZY _));have H3:=Z5 hc3 hb3;clear X7 hc3 hb3 vc vf vl IV;refine YK [9] [] [0,1,2,3,4,5,6,7,8,9] ZR ZR Xc ?_;iterate 9 (refine Yd ?_)
   refine XJ rfl rfl (fun K1 ER=>?_);go_simp;have Rc:Mod ↑ZW w3 w3.drew:=(Mod.refl _ w3).drew;have ED:=H3.out.1.quiet Rc;refine(dB _ bk g v s 1 3 kk Z8 (.inl rfl) hk3 ED.eb Z8).mono ?_;rintro e w4 hp;have Gm:Mod (fun j=>j=g\/j=bk\/v.ownBlock=some j) w3.drew w4:=by obtain⟨_,_,_,_,h⟩:=hp;exact h
   have Oc:¬(w.heap.size=g\/w.heap.size=bk\/v.ownBlock=some w.heap.size):=by
    rintro(e|e|e)
    ·exact H3.out.2.SL H3.out.1.eb.enc.blk ZU e
    ·exact H3.out.2.SL H3.out.1.eb.Ju ZU e
    ·exact SH H3.out.1.eb.enc.own H3.out.2 ZU e
   obtain⟨v4,rfl,JB⟩:=ED.puts hp;have hb4:=H3.out.2.drew.keep Gm Oc;have pV:=Z7 ((Ey.out.quiet Rc).puts ED.eb Gm);have H4:=Z5 JB hb4;clear hp Gm Oc JB hb4 ED Rc d9 d10;dsimp only [];refine ER _ _ ?_;clear ER K1;refine XD ?_;go_wp2_with fail;go_meet;refine⟨v4,by rw [H2.out.2.2.1],?_,by rw [<-H2.out.2.2.2.1,<-H2.out.2.2.2.2];exact H4.out.2,pV.out⟩;unfold Rz;rw [if_neg ZU,<-H2.out.2.2.1];exact H4.out.1
  ·go_wp2_with fail;go_meet;have eP:kd=⟨2,0,0⟩:=H0.out.2.2.2.1;exact⟨v,by rw [eP];rfl,H0.out.2.1,by rw [eP];exact H0.out.2.2.1,H0.out.2.2.2.2.2.2.2⟩
 case rest=>
  obtain⟨v,rfl,hcw,xG,sG⟩:=hcut;have IV:=Z7 sG;clear sG;rename World=>w2
  clear zJ;obtain⟨s1,hs1⟩:=ZL (Rz K kd.k s);rw [<-hs1]at hcw;have Fx:=H0.out.2.2.2.2.2.1;rw [<-hs1]at Fx;obtain⟨hk3,MB,MC,KQ,hK2⟩:=H0.out.2.2.2.2.1;obtain⟨kk,yA⟩:=ZL (kd.k);rw [<-yA]at hk3 KQ hK2 ⊢;have H2:=Z5 hcw xG;have jv:=Z5 hs1 (Z9 yA (Z9 KQ hK2));have KR:s1.code.length+19900<=1048575:=Z8;have hl2:(Pm kd s1).code.length+19900<=1048575:=Z8;have HL:=Z7 hl2;clear hcw xG hs1 Fx yA KQ hK2 hl2;go_upto_if 33 with(fail)
  go_cut [] (fun wx=>afC w0 w w.heap.size cb bk g K Q d fl al gy gu gv f (Pm kd s1) kd wx)
  case first=>
   by_cases h1:kk=1
   ·have d1:((kk:Int) == 1)=true:=by simp;omega
    have HK1:=Z7 h1;clear h1;obtain⟨vx,Im⟩:=ZL (kd.vx);obtain⟨vy,xH⟩:=ZL (kd.vy);rw [<-Im,<-xH]at H2;rw [<-Im]at MB;rw [<-xH]at MC;have HV:=Z5 Im xH;clear Im xH;have d9:w2.cell? ⟨cb,29,none⟩=some ↑(ZC bk 0):=(H2.out.1.Q4.cell 29).trans (Qd H0.out.1.qd.len H0.out.1.EP rfl).1;have d10:w2.cell? ⟨cb,30,none⟩=some ↑(ZC g 0):=(H2.out.1.Q4.cell 30).trans (Qd H0.out.1.qd.len H0.out.1.EP rfl).2;have vc:w2.cell? ↑w.heap.size=some (.int .i64 vx):=H2.out.2.cell 0;go_upto_region 5 with(fail)
    refine YK [10] [] [0,1,2,3,4,5,6,7,8,9,10] ZR ZR Xc ?_;iterate 10 (refine Yd ?_)
    refine XJ rfl rfl (fun K1 ER=>?_);go_simp;have Rc:Mod ↑ZW w2 w2.drew:=(Mod.refl _ w2).drew;have ED:=H2.out.1.quiet Rc;refine(C9 _ bk g _ s1 6 vx Z8 Z8 ED.eb Z8).mono ?_;rintro e w3 hp;have Gm:Mod (fun j=>j=g\/j=bk\/v.ownBlock=some j) w2.drew w3:=by obtain⟨_,_,_,_,h⟩:=hp;exact h
    have Oc:¬(w.heap.size=g\/w.heap.size=bk\/v.ownBlock=some w.heap.size):=by
     rintro(e|e|e)
     ·exact H2.out.2.SL H2.out.1.eb.enc.blk ZU e
     ·exact H2.out.2.SL H2.out.1.eb.Ju ZU e
     ·exact SH H2.out.1.eb.enc.own H2.out.2 ZU e
    obtain⟨v3,rfl,JB⟩:=ED.puts hp;have hb4:=H2.out.2.drew.keep Gm Oc;have Ey:=Z7 ((IV.out.quiet Rc).puts ED.eb Gm);have H3:=Z5 JB hb4;clear hp Gm Oc JB hb4 ED Rc d9 d10 vc;dsimp only [];refine ER _ _ ?_;clear ER K1;refine XD ?_;have iL:=Sz (t:=6) (x:=vx) Z8 s1;have d9:w3.cell? ⟨cb,29,none⟩=some ↑(ZC bk 0):=(H3.out.1.Q4.cell 29).trans (Qd H0.out.1.qd.len H0.out.1.EP rfl).1;have d10:w3.cell? ⟨cb,30,none⟩=some ↑(ZC g 0):=(H3.out.1.Q4.cell 30).trans (Qd H0.out.1.qd.len H0.out.1.EP rfl).2;have vc:w3.cell? ⟨w.heap.size,1,none⟩=some (.int .i64 vy):=H3.out.2.cell 1;go_upto_region 6 with(fail)
    refine YK [10] [] [0,1,2,3,4,5,6,7,8,9,10] ZR ZR Xc ?_;iterate 10 (refine Yd ?_)
    refine XJ rfl rfl (fun K1 ER=>?_);go_simp;have Rc:Mod ↑ZW w3 w3.drew:=(Mod.refl _ w3).drew;have ED:=H3.out.1.quiet Rc;refine(C9 _ bk g _ _ 7 vy Z8 Z8 ED.eb Z8).mono ?_;rintro e w4 hp;have Gm:Mod (fun j=>j=g\/j=bk\/v3.ownBlock=some j) w3.drew w4:=by obtain⟨_,_,_,_,h⟩:=hp;exact h
    have Oc:¬(w.heap.size=g\/w.heap.size=bk\/v3.ownBlock=some w.heap.size):=by
     rintro(e|e|e)
     ·exact H3.out.2.SL H3.out.1.eb.enc.blk ZU e
     ·exact H3.out.2.SL H3.out.1.eb.Ju ZU e
     ·exact SH H3.out.1.eb.enc.own H3.out.2 ZU e
    obtain⟨v4,rfl,JB⟩:=ED.puts hp;have hb4:=H3.out.2.drew.keep Gm Oc;have pV:=Z7 ((Ey.out.quiet Rc).puts ED.eb Gm);have H4:=Z5 JB hb4;clear hp Gm Oc JB hb4 ED Rc d9 d10 vc;dsimp only [];refine ER _ _ ?_;clear ER K1;refine XD ?_;go_wp2_with fail;go_meet;refine⟨v4,?_,by rw [<-HV.out.1,<-HV.out.2];exact H4.out.2,pV.out⟩;unfold Pm;rw [if_pos (by rw [<-jv.out.2.1];exact HK1.out),<-HV.out.1,<-HV.out.2];exact H4.out.1
   ·have d1:((kk:Int) == 1)=false:=by simp;omega
    go_wp2_with fail;go_meet;refine⟨v,?_,H2.out.2,IV.out⟩;unfold Pm;rw [if_neg (by rw [<-jv.out.2.1];exact h1)];exact H2.out.1
  case rest=>
   clear H2 IV;obtain⟨v,hcw,xG,sG⟩:=hcut;rename World=>w3
   have hR:=H0.out.2.2.2.2.2.2.1;rw [<-jv.out.1]at hR;generalize Pm kd s1=s2 at *;have H3:=Z5 hcw (Z9 xG (Z9 hR sG));clear hcw xG hR sG;go_wp2_with fail;go_loopw [56] (ahy w0 w w.heap.size cb bk g K Q d fl al gy gu gv f s2 kd fr Y7 sx sy) (fun i _=>6-(intOf i).toNat)
   case atStart=>exact⟨0,v,Z8,rfl,H3.out.1,H3.out.2.1,H3.out.2.2.2⟩
   case round=>
    rename World=>wr
    obtain⟨i,v5,hi,rfl,hcw,xG,sG⟩:=hrel;by_cases hlt:i<6
    ·have d2:=Zb ((i:Int)<6);have hle:=Ja (d:=d) (fr:=fr) (Y7:=Y7) (kind:=kd.k) H0.out.1.q sx sy kd.vx kd.vy f s2 i;obtain⟨vc,vf⟩:=xG.both;have hBL:=agU w0 wr cb bk g v5 K Q d fl fr al Y7 gy gu gv _ _ H0.out.1 hcw i sx sy hlt vQ vR kd.k (by rw [<-jv.out.2.1];exact hk3) (fun e=>by rw [<-jv.out.2.1];exact jv.out.2.2.2 e) kd.vx kd.vy MB MC (fun e=>jv.out.2.2.1 (by rw [jv.out.2.1];exact e)) (by have:=HL.out;omega);have hst:RY d fr Y7 kd.k Q sx sy kd.vx kd.vy f s2 (i+1)=PU d fr Y7 kd.k Q (U5 i) (QO (16*sx) i) (QP (16*sy) i) kd.vx kd.vy (RY d fr Y7 kd.k Q sx sy kd.vx kd.vy f s2 i).1 (RY d fr Y7 kd.k Q sx sy kd.vx kd.vy f s2 i).2:=rfl;rw [<-hst,<-jv.out.2.1]at hBL;have HB:=Z5 hBL (Z9 xG sG);clear hBL hst hle hcw xG sG;obtain⟨vx,Im⟩:=ZL (kd.vx);obtain⟨vy,xH⟩:=ZL (kd.vy);have dR:=HB.out.1;rw [<-Im,<-xH]at vc dR;have HB1:=Z7 dR;have vc0:=vc 0;have vc1:=vc 1;have HVV:=Z5 Im xH;clear Im xH dR vc vf;go_wp2_with fail;refine HB1.out.mono ?_;rintro e w6 ⟨rfl,⟨v6,hc6⟩,eO⟩;have jX:=Z5 hc6 (Z9 (eO _ _ _ ⟨ZU,ZU,ZU⟩ HB.out.2.1) (HB.out.2.2.trans eO));clear hc6 eO vc0 vc1;go_wp2_with fail;go_roundw
     case rel=>exact⟨i+1,v6,Z8,Zr,by rw [<-HVV.out.1,<-HVV.out.2,<-jv.out.2.1];exact jX.out.1,jX.out.2.1,jX.out.2.2⟩
     case measure=>exact YD
    ·obtain rfl:i=6:=Z8;have HF:=Z5 hcw sG;clear hcw xG sG;go_wp2_with fail;go_end0
     refine⟨rfl,⟨v5,?_⟩,HF.out.2⟩;rw [H3.out.2.2.1];exact HF.out.1
end Go.Proofs.YthednemlahioeaaGreatDoor
