/-
  plane.Half of a plane of even sides.
-/
import Derived.Test.YthednemlahioeaaGreatDoorM19
namespace Go.Proofs.YthednemlahioeaaGreatDoor
open Go.RowKit
open Nat renaming mul_le_mul_right→YE,add_mul→Y5,mul_comm→YA,one_mul→Ym,le_refl→ZY
open UInt8 renaming toNat_lt→ZN
open List renaming replicate→ZM,getD_eq_getElem?_getD→Z6
open IntWalk renaming wrap64_in→ZA,i64_in→Z4
open And renaming intro→Z9
open Lib renaming hid→Z7
open Int renaming tdiv_eq_ediv_of_nonneg→ZK,tmod_eq_emod_of_nonneg→Zu,natCast_mul→Rn
open ZI renaming cell→QQ,new→Zn,keep→YV
open Ne renaming symm→XP
open Go.Proofs.Tryz
set_option maxRecDepth 100000
set_option maxHeartbeats 8000000
theorem agy{k r i W m:Nat}(h:k=r+2*i)(hr:r+W+W<=m)(hi:2*i+2<=W)(hm:m<=16777216):k<m/\k+1<m/\k+W<m/\k+W+1<m/\1<=W/\k<=33554432:=Z8
theorem agx{j H2 H W m r:Nat}(hj:j<H2)(hh:H=2*H2)(hm:m=W*H)(hr:r=2*j*W):r+W+W<=m:=by
 have h1:=YE W (show 2*j+2<=H by omega);rw [Y5,<-hr,YA H W,<-hm]at h1;omega
theorem lS{j H2 W2 N m0:Nat}(hj:j<H2)(hN:N=W2*H2)(hm:m0=j*W2):m0+W2<=N:=by
 have h1:=YE W2 (show j+1<=H2 by omega);rw [Y5,Ym,<-hm,YA H2 W2,<-hN]at h1;exact h1
theorem uu{i W2 W:Nat}(hi:i<W2)(hw:W=2*W2):2*i+2<=W:=Z8
theorem lT{z m0 i W2 N:Nat}(hz:z=m0+i)(hi:i<W2)(h:m0+W2<=N)(hN:N<=4194304):z<N/\z<=33554432:=Z8
theorem agw{a0 a1 a2 a3 t:Nat}(h:t=(a0+a1+a2+a3+2)/4):((a0:Int)+(a1:Int)+(a2:Int)+(a3:Int)+2)/4=(t:Int):=Z8
theorem Rb{i n:Nat}(h:i<n):n-(intOf ↑(i+1:Nat)).toNat<n-(intOf ↑i).toNat:=by simp [intOf];omega
theorem Bj{W H W2 j N:Nat}{ZJ:List UInt8}{f:Nat->UInt8}(hw:W=2*W2)(hh:H=2*j)(hN:N=W2*j)(hf:f=iD W ZJ W2):Vq f N (j*W2)=zG W H ZJ:=by
 have e1:W/2=W2:=Z8;have e2:H/2=j:=Z8;unfold zG;rw [e1,e2,<-hf,hN,YA j W2,J4]
theorem abF{w:World}{b off m W k r:Nat}{ZJ:List UInt8}{fv:UInt8}(jN:∀z,z<m->w.cell? ⟨b,off+z,none⟩=some (.int .u8 ((ZJ.getD z 0).toNat:Int)))(h:k+W+1<m)(hW:1<=W)(hr:k=r)(hf:fv.toNat=DT W ZJ r):
  ∃a0 a1 a2 a3:Nat,w.cell? ⟨b,off+k,none⟩=some (.int .u8 (a0:Int))/\w.cell? ⟨b,off+(k+1),none⟩=some (.int .u8 (a1:Int))/\w.cell? ⟨b,off+(k+W),none⟩=some (.int .u8 (a2:Int))/\w.cell? ⟨b,off+(k+W+1),none⟩=some (.int .u8 (a3:Int)) /\
   a0<256/\a1<256/\a2<256/\a3<256/\fv.toNat=(a0+a1+a2+a3+2)/4:=by
 subst hr;exact⟨_,_,_,_,jN k Z8,jN (k+1) Z8,jN (k+W) Z8,jN (k+W+1) Z8,ZN _,ZN _,ZN _,ZN _,hf⟩
def afw(w:World)(W2 H2 N:Nat)(pv:Array Value)(v4:Value)(wx:World):Prop:=
 ∃hb q,v4=↑(ZC hb 0)/\Sat ↑ZW w wx [⟨hb,56,#[↑W2,↑H2,↑(ZZ q N N)]⟩,⟨q,5,(Yw (ZM N 0)).toArray⟩,⟨w.heap.size+1,56,#[↑Z0,↑Z0,↑Zd]⟩,⟨w.heap.size,56,pv⟩] []
def qX(w:World)(hb q N W2 H2:Nat)(pv:Array Value)(f:Nat->UInt8)(v42:Value)(wr:World):Prop:=
 ∃j:Nat,j<=H2/\v42=↑j/\Sat ↑ZW w wr [⟨hb,56,#[↑W2,↑H2,↑(ZZ q N N)]⟩,⟨q,5,(Yw (Vq f N (j*W2))).toArray⟩,⟨w.heap.size+1,56,#[↑Z0,↑Z0,↑Zd]⟩,⟨w.heap.size,56,pv⟩] []
def vV(w:World)(hb q N W2 H2 j:Nat)(pv:Array Value)(f:Nat->UInt8)(v47:Value)(wr:World):Prop:=
 ∃i:Nat,i<=W2/\v47=↑i/\Sat ↑ZW w wr [⟨hb,56,#[↑W2,↑H2,↑(ZZ q N N)]⟩,⟨q,5,(Yw (Vq f N (j*W2+i))).toArray⟩,⟨w.heap.size+1,56,#[↑Z0,↑Z0,↑Zd]⟩,⟨w.heap.size,56,pv⟩] []
theorem wrapN{W2 H2 N:Nat}(hN:N=W2*H2)(h:N<=4194304):wrap64 ((W2:Int)*(H2:Int))=(N:Int)/\IntKind.i64.wrap ((W2:Int)*(H2:Int))=(N:Int):=by
 have e:(W2:Int)*(H2:Int)=(N:Int):=by rw [hN];simp
 rw [e];exact⟨ZA _ ⟨Z8,Z8⟩,Z4 _ ⟨Z8,Z8⟩⟩
theorem ahH{j i W r k:Nat}(hr:r=2*j*W)(hk:k=r+2*i)(h:k<=33554432):wrap64 (wrap64 (2*(j:Int)*(W:Int))+2*(i:Int))=(k:Int):=by
 have e:2*(j:Int)*(W:Int)=(r:Int):=by rw [hr];simp
 rw [e,ZA (r:Int) ⟨Z8,Z8⟩,ZA _ ⟨Z8,Z8⟩];omega
theorem gF{j i W2 m0 z:Nat}(hm:m0=j*W2)(hz:z=m0+i)(h:z<=33554432):wrap64 (wrap64 ((j:Int)*(W2:Int))+(i:Int))=(z:Int):=by
 have e:(j:Int)*(W2:Int)=(m0:Int):=by rw [hm];simp
 rw [e,ZA (m0:Int) ⟨Z8,Z8⟩,ZA _ ⟨Z8,Z8⟩];omega
def GQ(w:World)(W2 H2 N:Nat)(l:List UInt8)(e:Ending)(w':World):Prop:=∃q,e=.returned (.tuple #[.agg #[↑W2,↑H2,↑(ZZ q N N)],↑Z0])/\ZI w' q 5 (Yw l).toArray/\w.heap.size<=q/\Mod ↑ZW w w'
theorem ahX(w:World)(W H:Nat)(A:Option Addr)(m c:Nat)(ZJ:List UInt8)(h:Yx W H=true)(hm:m=W*H)(YZ:BytesIn w A (W*H) c ZJ)(W2 H2 N:Nat)(hw:W=2*W2)(hh:H=2*H2)(hN:N=W2*H2):
  Calls prog 61 #[.agg #[↑W,↑H,.slice A m c]] w (GQ w W2 H2 N (zG W H ZJ)):=by
 obtain⟨wX,hW0,hW,vG,hH,_⟩:=YB h;obtain⟨b,off,hA,hb,hcell⟩:=YZ.place Z8;subst hA;have HI:=Z5 h (Z9 hm (Z9 hb hcell));have Me:m<=16777216:=Z8;have hW2:W2<=2048:=Z8;have qi:H2<=2048:=Z8;have qp:N<=4194304:=by
  have h1:W2*H2<=2048*2048:=Nat.mul_le_mul Z8 Z8;omega
 have dV:=(wrapN hN qp).1;have HNJ:=Z7 (wrapN hN qp).2;have wm:(W:Int) % 2=0:=Z8;have Ti:(H:Int) % 2=0:=Z8;have wd:(W:Int)/2=(W2:Int):=Z8;have hd:(H:Int)/2=(H2:Int):=Z8;have wt:(W:Int).tdiv 2=(W2:Int):=by rw [ZK Z8];exact wd
 have ht:(H:Int).tdiv 2=(H2:Int):=by rw [ZK Z8];exact hd
 have wmt:(W:Int).tmod 2=0:=by rw [Zu Z8];exact wm
 have hmt:(H:Int).tmod 2=0:=by rw [Zu Z8];exact Ti
 have h0:=((Sat.nil ↑ZW w).alloc 56 #[↑W,↑H,.slice (some ⟨b,off,none⟩) m c] rfl).alloc (g:=w.heap.size+1) 56 #[↑Z0,↑Z0,↑Zd] Ze;have H0:=Z7 h0;have yt:=Z5 hw (Z9 hh (Z9 hN dV));clear h hm YZ hcell h0 wX hw hh hN dV;go_enter func61,ntmps61;go_upto_region 1 with(fail)
 generalize ((w.alloc (.cells #[↑W,↑H,.slice (some ⟨b,off,none⟩) m c] 56)).alloc (.cells #[↑Z0,↑Z0,↑Zd] 56))=w1 at *;obtain⟨pc,pf⟩:=(H0.out.ZX 1 rfl).both;dsimp only at pc;go_wp2_with fail;refine YX (Ru _ W H (some ⟨b,off,none⟩) m c HI.out.1 HI.out.2.1) fun w2 Y3=>?_;have hS:=Sat.after Y3 H0.out;clear pc pf;have J6:ZI w2 w.heap.size 56 #[↑W,↑H,.slice (some ⟨b,off,none⟩) m c]:=hS.ZX 1 rfl;obtain⟨pc,pf⟩:=J6.both;have HS:=Z5 hS J6;clear hS Y3 H0 J6;go_upto_region 3 with(fail)
 go_cut [4] (fun v4 wx=>afw w W2 H2 N #[↑W,↑H,.slice (some ⟨b,off,none⟩) m c] v4 wx)
 case first=>
  have HPB:=Z7 (ZI.drew (HS.out.2));refine WG [13,15,16] [0,1,2,3,4,5,6,7,8,9,10,11,12,14] (PTree.after [0,1,2,3,4,5,6,7,8,9,10,11,12] (.fork 13 15 (.seq 14 (.seq 15 (.seq 16 .nil))) (.seq 13 (.seq 14 (.seq 16 .nil))))) (fun w'=>ZI w' w.heap.size 56 #[↑W,↑H,.slice (some ⟨b,off,none⟩) m c]) ZR ZR Xc HPB.out ?_;refine Zh (v:=↑(ZC w.heap.size 0)) ?_;refine Ww rfl rfl _ _ rfl rfl w.heap.size 0 rfl ↑W _ (fun w' hS=>QQ hS 0) underlying3 rfl (Yp ?_);refine Yu (v:=↑W2) rfl rfl rfl (fun w' _=>by go_simp;exact Z4 _ ⟨Z8,Z8⟩) (Yp ?_);refine Zh (v:=↑(ZC w.heap.size 1)) ?_;refine Ww rfl rfl _ _ rfl rfl w.heap.size 1 rfl ↑H _ (fun w' hS=>QQ hS 1) underlying3 rfl (Yp ?_);refine Yu (v:=↑H2) rfl rfl rfl (fun w' _=>by go_simp;exact Z4 _ ⟨Z8,Z8⟩) (Yp ?_);refine Zh (v:=↑(ZC w.heap.size 0)) ?_;refine Ww rfl rfl _ _ rfl rfl w.heap.size 0 rfl ↑W _ (fun w' hS=>QQ hS 0) underlying3 rfl (Yp ?_);refine Yu (v:=↑W2) rfl rfl rfl (fun w' _=>by go_simp;exact Z4 _ ⟨Z8,Z8⟩) (Yp ?_);refine Zh (v:=↑(ZC w.heap.size 1)) ?_;refine Ww rfl rfl _ _ rfl rfl w.heap.size 1 rfl ↑H _ (fun w' hS=>QQ hS 1) underlying3 rfl (Yp ?_);refine Yu (v:=↑H2) rfl rfl rfl (fun w' _=>by go_simp;exact Z4 _ ⟨Z8,Z8⟩) (Yp ?_);refine Yu (v:=↑N) rfl rfl rfl (fun w' _=>by go_simp;first|exact HNJ.out|exact yt.out.2.2.2) (Yp ?_);have HM:=Z7 (Mod.refl ↑ZW w2.drew);obtain⟨w3,hw3⟩:=ZL (w2.drew);rw [<-hw3]at HM ⊢;have HMD:Hid (Mod ↑ZW w2.drew w3):=by show Mod _ _ _;rw [hw3];exact Mod.refl _ _
  clear HM;have HM:=HMD;clear HMD hw3;have Dv:=fun w=>Gz w N Z8;refine Vd rfl rfl (fun K hK=>?_) (fun K hK=>?_)
  ·go_simp;have HQ:=Z7 (Zn w3 5 (Yw (ZM N 0)).toArray);have LQ:=HM.out.size;have HA:=Z7 ((Mod.refl ↑ZW w3).alloc (.cells (Yw (ZM N 0)).toArray 5));have HM:=Z7 (HM.out.alloc (.cells (Yw (ZM N 0)).toArray 5));obtain⟨q,eq⟩:=ZL (w3.heap.size);rw [<-eq]at HQ LQ ⊢;clear eq;generalize w3.alloc (.cells (Yw (ZM N 0)).toArray 5)=w3 at *;refine hK _ _ (YV HPB.out HM.out (fun h=>h)) ?_;clear hK K;refine Yu (v:=.agg #[↑W2,↑H2,↑(ZZ q N N)]) rfl rfl rfl (fun _ _=>by kernel_rfl) (Yp ?_);refine YO rfl rfl (fun K hK=>?_);go_simp;have HZ:=Z7 (Zn w3 56 #[↑Z0,↑Z0,↑Zd]);have LZ:=HM.out.size;have HA:=Z7 ((Mod.refl ↑ZW w3).alloc (.cells #[↑Z0,↑Z0,↑Zd] 56));have HM:=Z7 (HM.out.alloc (.cells #[↑Z0,↑Z0,↑Zd] 56));have HQ:=Z7 (YV HQ.out HA.out (fun h=>h));obtain⟨hb',dD⟩:=ZL (w3.heap.size);rw [<-dD]at HZ LZ ⊢;clear dD;generalize w3.alloc (.cells #[↑Z0,↑Z0,↑Zd] 56)=w3 at *;refine hK _ _ (YV HPB.out HM.out (fun h=>h)) ?_;clear hK K;refine Wm rfl rfl (fun K hK=>?_);rw [if_pos (by rfl)];refine wp_store_row 56 (.tmp 4) (.tmp 39) rfl hb' [↑W2,↑H2,↑(ZZ q N N)] rfl rfl 56 [↑Z0,↑Z0,↑Zd] HZ.out rfl ZR ZR (fun LM Tw Xk=>?_);go_simp;refine hK _ _ ?_;clear hK K;refine XC ?_;go_wp2_with fail;go_meet;have JN:=(HS.out.1.drew).quiet HM.out;have l1:w.heap.size+1<w2.heap.size:=(HS.out.1.ZX 0 rfl).lt;have l2:w2.heap.size<=w2.drew.heap.size:=((Mod.refl ↑ZW w2).drew).size;have nq:q≠hb':=ZI.SL HQ.out HZ.out ZU;have vH:=Sat.beside Xk JN (fun i e=>.inr (by have e2:i=hb':=e;omega)) (by intro e he;simp at he;rcases he with rfl|rfl<;>(dsimp only;omega));have zA:=vH.NA (g:=q) (YV HQ.out Xk nq) (.inr Z8) (by intro e he;simp at he;rcases he with rfl|rfl<;>(dsimp only;omega));have hS5:=zA.NA (g:=hb') Tw (.inr Z8) (by intro e he;simp at he;rcases he with rfl|rfl|rfl<;>(dsimp only;omega));exact⟨hb',q,rfl,hS5⟩
  ·go_simp;have HZ:=Z7 (Zn w3 56 #[↑Z0,↑Z0,↑Zd]);have LZ:=HM.out.size;have HA:=Z7 ((Mod.refl ↑ZW w3).alloc (.cells #[↑Z0,↑Z0,↑Zd] 56));have HM:=Z7 (HM.out.alloc (.cells #[↑Z0,↑Z0,↑Zd] 56));obtain⟨hb',dD⟩:=ZL (w3.heap.size);rw [<-dD]at HZ LZ ⊢;clear dD;generalize w3.alloc (.cells #[↑Z0,↑Z0,↑Zd] 56)=w3 at *;refine hK _ _ (YV HPB.out HM.out (fun h=>h)) ?_;clear hK K;refine YO rfl rfl (fun K hK=>?_);go_simp;have HQ:=Z7 (Zn w3 5 (Yw (ZM N 0)).toArray);have LQ:=HM.out.size;have HA:=Z7 ((Mod.refl ↑ZW w3).alloc (.cells (Yw (ZM N 0)).toArray 5));have HM:=Z7 (HM.out.alloc (.cells (Yw (ZM N 0)).toArray 5));have HZ:=Z7 (YV HZ.out HA.out (fun h=>h));obtain⟨q,eq⟩:=ZL (w3.heap.size);rw [<-eq]at HQ LQ ⊢;clear eq;generalize w3.alloc (.cells (Yw (ZM N 0)).toArray 5)=w3 at *;refine hK _ _ (YV HPB.out HM.out (fun h=>h)) ?_;clear hK K;refine Yu (v:=.agg #[↑W2,↑H2,↑(ZZ q N N)]) rfl rfl rfl (fun _ _=>by kernel_rfl) (Yp ?_);refine Wm rfl rfl (fun K hK=>?_);rw [if_pos (by rfl)];refine wp_store_row 56 (.tmp 4) (.tmp 39) rfl hb' [↑W2,↑H2,↑(ZZ q N N)] rfl rfl 56 [↑Z0,↑Z0,↑Zd] HZ.out rfl ZR ZR (fun LM Tw Xk=>?_);go_simp;refine hK _ _ ?_;clear hK K;refine XC ?_;go_wp2_with fail;go_meet;have JN:=(HS.out.1.drew).quiet HM.out;have l1:w.heap.size+1<w2.heap.size:=(HS.out.1.ZX 0 rfl).lt;have l2:w2.heap.size<=w2.drew.heap.size:=((Mod.refl ↑ZW w2).drew).size;have nq:q≠hb':=ZI.SL HQ.out HZ.out ZU;have vH:=Sat.beside Xk JN (fun i e=>.inr (by have e2:i=hb':=e;omega)) (by intro e he;simp at he;rcases he with rfl|rfl<;>(dsimp only;omega));have zA:=vH.NA (g:=q) (YV HQ.out Xk nq) (.inr Z8) (by intro e he;simp at he;rcases he with rfl|rfl<;>(dsimp only;omega));have hS5:=zA.NA (g:=hb') Tw (.inr Z8) (by intro e he;simp at he;rcases he with rfl|rfl|rfl<;>(dsimp only;omega));exact⟨hb',q,rfl,hS5⟩
 case rest=>
  obtain⟨hb',q,rfl,vH⟩:=hcut;rename World=>w3
  obtain⟨f,hf⟩:=ZL (iD W ZJ W2);rw [KX f]at vH;have HF:=Z7 hf;have hcb:ZI w3 hb' 56 #[↑W2,↑H2,↑(ZZ q N N)]:=vH.ZX 0 rfl;obtain⟨qc,qf⟩:=hcb.both;have Td:=Z7 vH;clear vH hcb hf pc pf HS wt ht wmt hmt wm Ti wd hd;go_wp2_with fail;go_loopw [42] (qX w hb' q N W2 H2 #[↑W,↑H,.slice (some ⟨b,off,none⟩) m c] f) (fun s _=>H2-(intOf s).toNat)
  case atStart=>exact⟨0,Z8,rfl,by rw [Nat.zero_mul];exact Td.out⟩
  case round=>
   clear Td qc qf;obtain⟨j,hj,rfl,hSj⟩:=hrel;rename World=>w4
   have hcb:ZI w4 hb' 56 #[↑W2,↑H2,↑(ZZ q N N)]:=hSj.ZX 0 rfl;obtain⟨qc,qf⟩:=hcb.both;have HJ:=Z7 hSj;clear hSj hcb;by_cases hlt:j<H2
   ·have d1:=Zb ((j:Int)<(H2:Int));go_wp2_with fail;go_loopw [47] (vV w hb' q N W2 H2 j #[↑W,↑H,.slice (some ⟨b,off,none⟩) m c] f) (fun s _=>W2-(intOf s).toNat)
    case atStart=>exact⟨0,Z8,rfl,HJ.out⟩
    case round=>
     clear HJ qc qf;rename World=>w6
     obtain⟨i,hi,rfl,iw⟩:=hrel;by_cases Pq:i<W2
     ·have d2:=Zb ((i:Int)<(W2:Int));have J6:ZI w6 w.heap.size 56 #[↑W,↑H,.slice (some ⟨b,off,none⟩) m c]:=iw.ZX 3 rfl;obtain⟨pc,pf⟩:=J6.both;have HG:=Z7 iw;clear iw J6;go_upto_region 11 with(fail)
      obtain⟨k,hk⟩:=ZL (2*j*W+2*i);obtain⟨r,hr⟩:=ZL (2*j*W);have eZ:r+W+W<=m:=agx hlt yt.out.2.1 HI.out.2.1 hr;have hkr:k=r+2*i:=by rw [hk,hr]
      have hiW:2*i+2<=W:=uu Pq yt.out.1;obtain⟨k0,k1,k2,k3,hW1,aiK⟩:=agy hkr eZ hiW Me;have hkw:wrap64 (wrap64 (2*(j:Int)*(W:Int))+2*(i:Int))=(k:Int):=ahH hr hkr aiK;rw [hkw];clear hkw;have jN:∀z,z<m->w6.cell? ⟨b,off+z,none⟩=some (.int .u8 ((ZJ.getD z 0).toNat:Int)):=fun z hz=>(World.cell?_of_block (HG.out.mod.block b HI.out.2.2.1 (fun h=>h))).trans (HI.out.2.2.2 z (by rw [<-HI.out.2.1];exact hz));obtain⟨a0,a1,a2,a3,q0,q1,q2,q3,g0,g1,g2,g3,hfv⟩:=abF (fv:=f (j*W2+i)) jN k3 hW1 hk (by rw [HF.out];exact l9 W ZJ W2 j i Pq);have HV:=Z5 hfv (Z9 hk hr);have HKR:=Z5 hkr eZ;clear hfv hk hr hkr eZ jN aiK hW1;go_quiet (fail)
      have hSq:=HG.out.drewN nq;clear q0 q1 q2 q3 HG pc pf;generalize w6.drewN nq=w7 at *;have hcb:ZI w7 hb' 56 #[↑W2,↑H2,↑(ZZ q N N)]:=hSq.ZX 0 rfl;obtain⟨qc,qf⟩:=hcb.both;have vO:ZI w7 q 5 (Yw (Vq f N (j*W2+i))).toArray:=hSq.ZX 1 rfl;have ql:=vO.lt;have qfz:=vO.frozen;obtain⟨m0,QN⟩:=ZL (j*W2);have iO:m0+W2<=N:=lS hlt yt.out.2.2.1 QN;obtain⟨z,hz⟩:=ZL (m0+i);obtain⟨z1,nN⟩:=lT hz Pq iO qp;have bE:j*W2+i=z:=by rw [<-QN,<-hz]
      have DC:=Ra vO (by rw [bE];exact z1);rw [bE]at DC;have jg:wrap64 (wrap64 ((j:Int)*(W2:Int))+(i:Int))=(z:Int):=gF QN hz nN;have HS:=Z5 hSq (Z9 QN (Z9 hz jg));clear hcb vO hSq QN hz iO jg nN bE;have jg:=HS.out.2.2.2;go_wp2_with fail;have hput:=HS.out.1.put (.there (.here (Ou f N (j*W2+i))));have hval:((a0:Int)+(a1:Int)+(a2:Int)+(a3:Int)+2)/4=((f (j*W2+i)).toNat:Int):=agw HV.out.1;rw [hval];have hzz:j*W2+i=z:=by rw [HS.out.2.2.1,HS.out.2.1]
      rw [show(Value.int IntKind.i64 ((i:Int)+1))=↑(i+1:Nat)from rfl];refine⟨⟨i+1,Pq,rfl,?_⟩,Rb Pq⟩;rw [hzz]at hput ⊢;rw [<-Nat.add_assoc,hzz];exact hput
     ·obtain rfl:i=W2:=Z8;have d2:=Za ((i:Int)<(i:Int));have HG:=Z7 iw;clear iw;go_wp2_with fail;go_roundw
      case rel=>exact⟨j+1,Z8,Zr,by rw [Y5,Ym];exact HG.out⟩
      case measure=>exact YD
   ·obtain rfl:j=H2:=Z8;have d1:=Za ((j:Int)<(j:Int));have Rq:ZI w4 (w.heap.size+1) 56 #[↑Z0,↑Z0,↑Zd]:=HJ.out.ZX 2 rfl;obtain⟨rc,rf⟩:=Rq.both;have rl:=Rq.lt;have bZ:=Z7 yt.out.2.2.1;have HFF:=Z7 HF.out;go_wp2_with fail;have iq:=((HJ.out.put (g:=w.heap.size+1) (i:=0) (u:=↑W2) (.there (.there (.here rfl)))).put (g:=w.heap.size+1) (i:=1) (u:=↑j) (.there (.there (.here rfl)))).put (g:=w.heap.size+1) (i:=2) (u:=↑(ZZ q N N)) (.there (.there (.here rfl)));have uJ:ZI _ (w.heap.size+1) 56 #[↑W2,↑j,↑(ZZ q N N)]:=iq.ZX 2 rfl;have EF:=iq.ZX 1 rfl;dsimp only at EF;rw [Bj yt.out.1 yt.out.2.1 bZ.out HFF.out]at EF;have p0:=uJ.cell 0;have p1:=uJ.cell 1;have p2:=uJ.cell 2;exact bodyPost_ret (v:=.tuple #[.agg #[↑W2,↑j,↑(ZZ q N N)],↑Z0]) (by simp [results,results61,go_sem,p0,p1,p2]) rfl ⟨q,rfl,EF,iq.low 1 rfl,iq.mod⟩
theorem uR(w:World)(W H:Nat)(A:Option Addr)(m c:Nat)(ZJ:List UInt8)(h:Yx W H=true)(hm:m=W*H)(YZ:BytesIn w A m c ZJ)(W2 H2 N:Nat)(hw:W=2*W2)(hh:H=2*H2)(hN:N=W2*H2):
  Calls prog 61 #[.agg #[↑W,↑H,.slice A m c]] w (GQ w W2 H2 N (zG W H ZJ)):=by
 subst hm;exact ahX w W H A _ c ZJ h rfl YZ W2 H2 N hw hh hN
theorem ahY(w:World)(d:Yz)(hd:d.Ok)(hW:d.W % 32=0)(hH:d.H % 32=0)(A0 A1 A2:Option Addr)(c0 c1 c2:Nat)(f:Yy)(i0:BytesIn w A0 d.nY c0 f.Y)(i1:BytesIn w A1 d.nC c1 f.U)(i2:BytesIn w A2 d.nC c2 f.V)
  (fC:Ye d.W d.H d.nY d.W2 d.H2 d.nC d.W2 d.H2 d.nC=true):
  Calls prog 20 #[.agg #[↑d.W,↑d.H,.slice A0 d.nY c0,↑d.W2,↑d.H2,.slice A1 d.nC c1,↑d.W2,↑d.H2,.slice A2 d.nC c2]] w fun e w'=>∃p,e=.returned (.tuple #[p,↑Z0])/\Qn w d.down (Sj d f) p w'/\Mod ↑ZW w w':=by
 have h0:=((Sat.nil ↑ZW w).alloc 58 #[↑d.W,↑d.H,.slice A0 d.nY c0,↑d.W2,↑d.H2,.slice A1 d.nC c1,↑d.W2,↑d.H2,.slice A2 d.nC c2] rfl).alloc (g:=w.heap.size+1) 58 ↑WK Ze;have H0:=Z5 h0 (Z9 i0 (Z9 i1 i2));have m1:((d.W:Int) % 32 != 0)=false:=by simp;omega
 have m2:((d.H:Int) % 32 != 0)=false:=by simp;omega
 have e1:d.W2=2*(d.W2/2):=by have:=hd.w2;omega
 have e2:d.H2=2*(d.H2/2):=by have:=hd.h2;omega
 have HD:=Z5 hd (Z9 e1 (Z9 e2 (Z9 hW hH)));obtain⟨fc,ff⟩:=(h0.ZX 1 rfl).both;dsimp only at fc;clear h0 i0 i1 i2 e1 e2 hd hW hH;have HW:=Z7 fC;clear fC;go_enter func20,ntmps20;go_wp2_with fail;refine YX (Mh _ (d.W:Int) (d.H:Int) (d.W2:Int) (d.H2:Int) (d.W2:Int) (d.H2:Int) A0 A1 A2 d.nY c0 d.nC c1 d.nC c2) fun w1 Y6=>?_;rw [HW.out];have hs1:=Sat.after Y6 H0.out.1;clear fc ff;obtain⟨fc,ff⟩:=(hs1.ZX 1 rfl).both;dsimp only at fc;have fl:=(hs1.ZX 1 rfl).lt;dsimp only at fl;have H1:=Z7 hs1;clear hs1 Y6;go_wp2_with fail;have hs2:=H1.out.alloc (g:=w1.heap.size) 58 ↑WK rfl;refine(uR _ d.W d.H A0 d.nY c0 f.Y HD.out.1.sides HD.out.1.ny (H0.out.2.1.quiet hs2.mod) d.W2 d.H2 d.nC HD.out.1.w2 HD.out.1.h2 HD.out.1.nc).mono ?_;rintro e w2 ⟨q0,rfl,hb0,hl0,Y3⟩;have hs3:=Sat.grew Y3 hs2 hb0 hl0;obtain⟨fb,Px⟩:=ZL (w1.heap.size);rw [<-Px]at hs3 ⊢;have HX:=Z7 Px;clear fc ff hb0 hl0 Y3 hs2 fl Px;obtain⟨fc,ff⟩:=(hs3.ZX 1 rfl).both;dsimp only at fc;have yB:=(hs3.ZX 1 rfl).lt;dsimp only at yB;have H3:=Z7 hs3;clear hs3;go_upto_region 5 with(fail)
 have Bq:Sat ↑ZW w (((w2.setCell ↑fb ↑d.W2).setCell ⟨fb,1,none⟩ ↑d.H2).setCell ⟨fb,2,none⟩ ↑(ZZ q0 d.nC d.nC)) [⟨q0,5,(Yw (zG d.W d.H f.Y)).toArray⟩,⟨fb,58,#[↑d.W2,↑d.H2,↑(ZZ q0 d.nC d.nC),↑Z0,↑Z0,↑Zd,↑Z0,↑Z0,↑Zd]⟩,⟨w.heap.size+1,58,↑WK⟩,⟨w.heap.size,58,#[↑d.W,↑d.H,.slice A0 d.nY c0,↑d.W2,↑d.H2,.slice A1 d.nC c1,↑d.W2,↑d.H2,.slice A2 d.nC c2]⟩] []:=
  ((H3.out.put (.there (.here rfl))).put (.there (.here rfl))).put (.there (.here rfl))
 clear fc ff yB H3;generalize (((w2.setCell ↑fb ↑d.W2).setCell ⟨fb,1,none⟩ ↑d.H2).setCell ⟨fb,2,none⟩ ↑(ZZ q0 d.nC d.nC))=w3 at *;obtain⟨fc,ff⟩:=(Bq.ZX 3 rfl).both;dsimp only at fc;have H4:=Z7 Bq;clear Bq;go_wp2_with fail;refine(uR _ d.W2 d.H2 A1 d.nC c1 f.U HD.out.1.half HD.out.1.nc (H0.out.2.2.1.quiet H4.out.mod) (d.W2/2) (d.H2/2) (d.W2/2*(d.H2/2)) HD.out.2.1 HD.out.2.2.1 rfl).mono ?_;rintro e w4 ⟨q1,rfl,hb1,KR,Xl⟩;have hs5:=Sat.grew Xl H4.out hb1 KR;obtain⟨W4,vI⟩:=ZL (d.W2/2);obtain⟨tV,qj⟩:=ZL (d.H2/2);obtain⟨N4,hN4⟩:=ZL (W4*tV);rw [<-vI,<-qj,<-hN4];have HE:=Z5 vI (Z9 qj hN4);clear fc ff hb1 KR Xl vI qj hN4;obtain⟨fc,ff⟩:=(hs5.ZX 2 rfl).both;dsimp only at fc;have yB:=(hs5.ZX 2 rfl).lt;dsimp only at yB;have H5:=Z7 hs5;clear hs5;go_upto_region 6 with(fail)
 have J7:Sat ↑ZW w (((w4.setCell ⟨fb,3,none⟩ ↑W4).setCell ⟨fb,4,none⟩ ↑tV).setCell ⟨fb,5,none⟩ ↑(ZZ q1 N4 N4)) [⟨q1,5,(Yw (zG d.W2 d.H2 f.U)).toArray⟩,⟨q0,5,(Yw (zG d.W d.H f.Y)).toArray⟩,⟨fb,58,#[↑d.W2,↑d.H2,↑(ZZ q0 d.nC d.nC),↑W4,↑tV,↑(ZZ q1 N4 N4),↑Z0,↑Z0,↑Zd]⟩,⟨w.heap.size+1,58,↑WK⟩,⟨w.heap.size,58,#[↑d.W,↑d.H,.slice A0 d.nY c0,↑d.W2,↑d.H2,.slice A1 d.nC c1,↑d.W2,↑d.H2,.slice A2 d.nC c2]⟩] []:=
  ((H5.out.put (.there (.there (.here rfl)))).put (.there (.there (.here rfl)))).put (.there (.there (.here rfl)))
 clear fc ff yB H5;generalize (((w4.setCell ⟨fb,3,none⟩ ↑W4).setCell ⟨fb,4,none⟩ ↑tV).setCell ⟨fb,5,none⟩ ↑(ZZ q1 N4 N4))=w5 at *;obtain⟨fc,ff⟩:=(J7.ZX 4 rfl).both;dsimp only at fc;have H6:=Z7 J7;clear J7;go_wp2_with fail;refine(uR _ d.W2 d.H2 A2 d.nC c2 f.V HD.out.1.half HD.out.1.nc (H0.out.2.2.2.quiet H6.out.mod) W4 tV N4 (by rw [HE.out.1];exact HD.out.2.1) (by rw [HE.out.2.1];exact HD.out.2.2.1) HE.out.2.2).mono ?_;rintro e w6 ⟨q2,rfl,hb2,hl2,Xt⟩;have hs7:=Sat.grew Xt H6.out hb2 hl2;clear fc ff hb2 hl2 Xt;obtain⟨fc,ff⟩:=(hs7.ZX 3 rfl).both;dsimp only at fc;have yB:=(hs7.ZX 3 rfl).lt;dsimp only at yB;have H7:=Z7 hs7;clear hs7;go_upto_region 7 with(fail)
 have sI:Sat ↑ZW w (((w6.setCell ⟨fb,6,none⟩ ↑W4).setCell ⟨fb,7,none⟩ ↑tV).setCell ⟨fb,8,none⟩ ↑(ZZ q2 N4 N4)) [⟨q2,5,(Yw (zG d.W2 d.H2 f.V)).toArray⟩,⟨q1,5,(Yw (zG d.W2 d.H2 f.U)).toArray⟩,⟨q0,5,(Yw (zG d.W d.H f.Y)).toArray⟩,⟨fb,58,#[↑d.W2,↑d.H2,↑(ZZ q0 d.nC d.nC),↑W4,↑tV,↑(ZZ q1 N4 N4),↑W4,↑tV,↑(ZZ q2 N4 N4)]⟩,⟨w.heap.size+1,58,↑WK⟩,⟨w.heap.size,58,#[↑d.W,↑d.H,.slice A0 d.nY c0,↑d.W2,↑d.H2,.slice A1 d.nC c1,↑d.W2,↑d.H2,.slice A2 d.nC c2]⟩] []:=
  ((H7.out.put (.there (.there (.there (.here rfl))))).put (.there (.there (.there (.here rfl))))).put (.there (.there (.there (.here rfl))))
 clear fc ff yB H7;generalize (((w6.setCell ⟨fb,6,none⟩ ↑W4).setCell ⟨fb,7,none⟩ ↑tV).setCell ⟨fb,8,none⟩ ↑(ZZ q2 N4 N4))=w7 at *;obtain⟨fc,ff⟩:=(sI.ZX 3 rfl).both;dsimp only at fc;have fl:=(sI.ZX 3 rfl).lt;obtain⟨rc,rf⟩:=(sI.ZX 4 rfl).both;dsimp only at rc fl;have rl:=(sI.ZX 4 rfl).lt;dsimp only at rl;have H8:=Z7 sI;clear sI;go_wp2_with fail;have iW:=H8.out.ZX 4 rfl;dsimp only at iW;obtain⟨b9,m9⟩:=Qg iW ↑d.W2 ↑d.H2 ↑(ZZ q0 d.nC d.nC) ↑W4 ↑tV ↑(ZZ q1 N4 N4) ↑W4 ↑tV ↑(ZZ q2 N4 N4)
 skip
 have Ik:=H8.out.turn m9 b9 (.there (.there (.there (.there .here))));have p0:=b9.cell 0;have p1:=b9.cell 1;have p2:=b9.cell 2;have p3:=b9.cell 3;have p4:=b9.cell 4;have p5:=b9.cell 5;have p6:=b9.cell 6;have p7:=b9.cell 7;have p8:=b9.cell 8;have y0:=Ik.ZX 2 rfl;have y1:=Ik.ZX 1 rfl;have y2:=Ik.ZX 0 rfl;dsimp only at y0 y1 y2;have bK:=Ik.apart 1 2 rfl rfl Z8;have bL:=Ik.apart 0 2 rfl rfl Z8;have bM:=Ik.apart 0 1 rfl rfl Z8;have L0:=Ik.low 2 rfl;have L1:=Ik.low 1 rfl;have L2:=Ik.low 0 rfl;dsimp only at bK bL bM L0 L1 L2;have hM:=Ik.mod;have hv:YF d.down q0 q1 q2=[↑d.W2,↑d.H2,↑(ZZ q0 d.nC d.nC),↑W4,↑tV,↑(ZZ q1 N4 N4),↑W4,↑tV,↑(ZZ q2 N4 N4)]:=by
  have e3:N4=d.W2/2*(d.H2/2):=by rw [HE.out.2.2,HE.out.1,HE.out.2.1]
  rw [e3,HE.out.1,HE.out.2.1];rfl
 have ly:(Sj d f).Y.length=d.down.nY:=by
  show(zG d.W d.H f.Y).length=d.nC;rw [Qy,HD.out.1.nc];have a:=HD.out.1.w2;have b:=HD.out.1.h2;rw [show d.W/2=d.W2 by omega,show d.H/2=d.H2 by omega]
 have HZ:=Z5 y0 (Z9 y1 (Z9 y2 (Z9 (Z9 bK (Z9 bL bM)) (Z9 (Z9 L0 (Z9 L1 L2)) (Z9 hM ly)))));clear y0 y1 y2 bK bL bM L0 L1 L2 hM ly Ik iW b9 m9 fc ff fl rc rf rl;refine bodyPost_ret (v:=.tuple #[.agg (YF d.down q0 q1 q2).toArray,↑Z0]) (by rw [hv];simp [results,results20,go_sem,p0,p1,p2,p3,p4,p5,p6,p7,p8]) rfl ⟨_,rfl,⟨q0,q1,q2,rfl,⟨HZ.out.1,HZ.out.2.1,HZ.out.2.2.1,HZ.out.2.2.2.2.2.2,?_,?_,XP HZ.out.2.2.2.1.1,XP HZ.out.2.2.2.1.2.1,XP HZ.out.2.2.2.1.2.2⟩,HZ.out.2.2.2.2.1.1,HZ.out.2.2.2.2.1.2.1,HZ.out.2.2.2.2.1.2.2⟩,HZ.out.2.2.2.2.2.1⟩
 ·exact Qy d.W2 d.H2 f.U
 ·exact Qy d.W2 d.H2 f.V
def V8(d:Yz)(G tg q:Nat)(fs:List Yy)(i j:Nat):List (List UInt8 × Yy):=(List.range j).map fun t=>U0 d G tg q fs (i*G+t)
theorem DZ(d:Yz)(G tg q:Nat)(fs:List Yy)(i j:Nat):V8 d G tg q fs i (j+1)=V8 d G tg q fs i j++[U0 d G tg q fs (i*G+j)]:=by
 unfold V8;rw [List.range_succ,List.map_append];rfl
def kG(B:Nat)(W:World)(p:qZ)(v:Value)(Z:Nat)(done:List (List (List UInt8 × Yy)))(gb:Nat)(Xa:List Yy)(q0 i:Nat)(v55:Value)(wr:World):Prop:=
 ∃(j T:Nat) (sv fv:Value),j<=Rl p.G Xa.length i/\v55=↑j /\
  Ux B W p v Z done gb T sv fv ((V8 p.d p.G p.tg q0 Xa i j).map Prod.fst) ((V8 p.d p.G p.tg q0 Xa i j).map Prod.snd) (Xr p.d p.G p.tg q0 Xa (i*p.G+j)).1 (j % p.G) (Xr p.d p.G p.tg q0 Xa (i*p.G+j)).2 wr
structure ahs(w:World)(fb eb:Nat)(d:Yz)(P:Yy)(fx:Ya):Prop where
 blk:ZI w fb 58 fx.cells.toArray
 RU:fx.In w
 good:fx.UG d=true
 ZJ:fx.ZJ=P
 off:∀ad,(fx.A0=some ad\/fx.A1=some ad\/fx.A2=some ad)->ad.block≠fb/\ad.block≠eb
theorem Ya.In.mod{f:Ya}{w w':World}{S:Nat->Prop}(h:f.In w)(hm:Mod S w w')(hS:∀ad,(f.A0=some ad\/f.A1=some ad\/f.A2=some ad)->¬S ad.block):f.In w':=
 ⟨h.b0.mod hm (fun _ ad e=>hS ad (.inl e)),h.b1.mod hm (fun _ ad e=>hS ad (.inr (.inl e))),h.b2.mod hm (fun _ ad e=>hS ad (.inr (.inr e))),h.k0,h.k1,h.k2,h.m0,h.m1,h.m2⟩
theorem Ya.In.quiet'{f:Ya}{w w':World}(h:f.In w)(hm:Mod ↑ZW w w'):f.In w':=h.mod hm (fun _ _ h=>h)
def afH(B:Nat)(W:World)(p:qZ)(v:Value)(Z:Nat)(done:List (List (List UInt8 × Yy)))(gb T:Nat)(sv fv:Value)(ss:List (List UInt8))(ff:List Yy)(q nu:Nat)(Y7:Yy)(fb dn:Nat)(d0:Yz)(P:Yy)(v61:Value)(wq:World):Prop:=
 ∃(m:Nat) (fx:Ya),m<=dn/\v61=↑m/\ahs wq fb p.eb (d0.Xu m) (Tu d0 P m) fx/\Ux B W p v Z done gb T sv fv ss ff q nu Y7 wq
theorem Di{d:Yz}(hd:d.Ok)(g0 g1 g2:Nat)(P:Yy):(Ya.mk (d.W:Int) (d.H:Int) (some ↑g0) d.nY d.nY (d.W2:Int) (d.H2:Int) (some ↑g1) d.nC d.nC (d.W2:Int) (d.H2:Int) (some ↑g2) d.nC d.nC P.Y P.U P.V).UG d=true:=by
 have hs:=hd.sides;have hh:=hd.half;have a1:=hd.w2;have a2:=hd.h2;have b1:=hd.jm;have b2:=hd.h16;have c1:((d.nY:Nat):Int)=(d.W:Int)*(d.H:Int):=by rw [hd.ny,Rn]
 have c2:((d.nC:Nat):Int)=(d.W2:Int)*(d.H2:Int):=by rw [hd.nc,Rn]
 obtain⟨x1,x2,x3,x4,x5,x6⟩:=YB hs;obtain⟨y1,y2,y3,y4,y5,y6⟩:=YB hh;have s0:Rm (d.W:Int) (d.H:Int)=true:=by unfold Rm;simp;omega
 have s1:Rm (d.W2:Int) (d.H2:Int)=true:=by unfold Rm;simp;omega
 have r0:X8 (d.W:Int) (d.H:Int) d.nY=true:=by unfold X8;rw [s0,decide_eq_true c1];rfl
 have r1:X8 (d.W2:Int) (d.H2:Int) d.nC=true:=by unfold X8;rw [s1,decide_eq_true c2];rfl
 unfold Ya.UG Ye;dsimp only;rw [decide_eq_true (p:=(d.W:Int)=(d.W:Int)) rfl,decide_eq_true (p:=(d.H:Int)=(d.H:Int)) rfl,Bool.and_true,Bool.and_true];exact decide_eq_true ⟨r0,r1,r1,Z8,Z8,Z8,Z8,Z8,Z8⟩
theorem Yz.Ok.ve{d:Yz}(hd:d.Ok):Ye d.W d.H d.nY d.W2 d.H2 d.nC d.W2 d.H2 d.nC=true:=by
 have h1:=Di hd 0 0 0 KZ;unfold Ya.UG at h1;rw [Bool.and_eq_true]at h1;exact h1.1
theorem af4(w:World)(d:Yz)(hd:d.Ok)(hdd:d.down.Ok)(hW:d.W % 32=0)(hH:d.H % 32=0)(fx:Ya)(hg:fx.UG d=true)(YZ:fx.In w):
  Calls prog 20 #[.agg fx.cells.toArray] w fun e w'=>∃fy:Ya,e=.returned (.tuple #[.agg fy.cells.toArray,↑Z0])/\fy.In w'/\fy.UG d.down=true/\fy.ZJ=Sj d fx.ZJ/\(∀ad,(fy.A0=some ad\/fy.A1=some ad\/fy.A2=some ad)->w.heap.size<=ad.block)/\Mod ↑ZW w w':=by
 have hw:=hd.ve;obtain⟨SB,h0,h1,h2⟩:=Ya.good hd hg;have i0:=YZ.b0;have i1:=YZ.b1;have i2:=YZ.b2;rw [h0]at i0;rw [h1]at i1;rw [h2]at i2;rw [SB];refine(ahY w d hd hW hH fx.A0 fx.A1 fx.A2 fx.c0 fx.c1 fx.c2 fx.ZJ i0 i1 i2 hw).mono ?_;rintro e w' ⟨p,rfl,⟨g0,g1,g2,rfl,hf,l0,l1,l2⟩,hm⟩
 refine⟨Ya.mk (d.down.W:Int) (d.down.H:Int) (some ↑g0) d.down.nY d.down.nY (d.down.W2:Int) (d.down.H2:Int) (some ↑g1) d.down.nC d.down.nC (d.down.W2:Int) (d.down.H2:Int) (some ↑g2) d.down.nC d.down.nC (Sj d fx.ZJ).Y (Sj d fx.ZJ).U (Sj d fx.ZJ).V,rfl,
  ⟨UF hf.Ff hf.ly hdd.zZ,UF hf.bu hf.lu hdd.Lt,UF hf.bv hf.lv hdd.Lt,ZY _,ZY _,ZY _,?_,?_,?_⟩,Di hdd g0 g1 g2 _,rfl,?_,hm⟩
 ·show d.down.nY<=_;have:=hdd.zZ;omega
 ·show d.down.nC<=_;have:=hdd.Lt;omega
 ·show d.down.nC<=_;have:=hdd.Lt;omega
 ·rintro ad (e|e|e)<;>(injection e with e;subst e;assumption)
def E8(w:World)(g:Nat)(d:Yz)(G q tg nu:Nat)(r:List UInt8 × Yy)(e:Ending)(w':World):Prop:=
 ∃A c g0 g1 g2,e=.returned (.tuple #[.slice A r.1.length c,.agg (YF d g0 g1 g2).toArray,↑Z0])/\Bytes w' w.heap.size (.slice A r.1.length c) r.1/\WN w' d g0 g1 g2 r.2/\(w.heap.size<=g0/\w.heap.size<=g1/\w.heap.size<=g2) /\
   Uu w' g d G (Gu q tg G r.1.length) tg (Ip nu G) r.2/\Mod (·=g) w w'
theorem aaz{w:World}{g:Nat}{d:Yz}{G q tg nu:Nat}{Y7:Yy}(h:Uu w g d G q tg nu Y7)(he:Kk w)(hd:d.Ok)(hW:d.W<=64)(hH:d.H<=64)(hG:1<=G/\G<=64)(hq:q<=31)(ht:tg<=1048576)(EU:nu<G)(f:Ya)(hf:f.In w)(hg:f.UG d=true){r:List UInt8 × Yy}(hr:Uy d f.ZJ Y7 nu q=r):
  Calls prog 97 #[↑(ZC g 0),.agg f.cells.toArray] w (E8 w g d G q tg nu r):=by
 refine(abM h he hd hW hH hG hq ht EU f hf).mono ?_;rintro e w' (⟨h1,_⟩|⟨_,v,p,rfl,hB,⟨g0,g1,g2,rfl,hfp,l0,l1,l2⟩,hE,hm⟩)
 ·exact absurd (h1.symm.trans hg) ZU
 ·rw [hr]at hB hfp hE;obtain⟨A,c,rfl⟩:=ZG hB;exact⟨A,c,g0,g1,g2,rfl,hB,hfp,⟨l0,l1,l2⟩,hE,hm⟩
theorem Ya.low{f:Ya}{d:Yz}{w:World}(hd:d.Ok)(hg:f.UG d=true)(h:f.In w):∀ad,(f.A0=some ad\/f.A1=some ad\/f.A2=some ad)->ad.block<w.heap.size:=by
 obtain⟨_,h0,h1,h2⟩:=Ya.good hd hg;obtain⟨_,a1,_,a3,_,a5⟩:=YB hd.sides;obtain⟨_,b1,_,b3,_,b5⟩:=YB hd.half;rintro ad (e|e|e)
 ·exact h.b0.2.2.2 (by rw [h0,hd.ny];exact Nat.mul_pos a1 a3) ad e
 ·exact h.b1.2.2.2 (by rw [h1,hd.nc];exact Nat.mul_pos b1 b3) ad e
 ·exact h.b2.2.2.2 (by rw [h2,hd.nc];exact Nat.mul_pos b1 b3) ad e
section
variable {B : Nat} {W : World} {p : qZ} {v : Value} {Z : Nat} {done : List (List (List UInt8 × Yy))} {gb T : Nat} {sv fv : Value} {ss : List (List UInt8)} {ff : List Yy} {q nu : Nat} {Y7 : Yy} {w w' : World}
theorem Ux.SL(h:Ux B W p v Z done gb T sv fv ss ff q nu Y7 w){x:Nat}(hx:T<=x):x≠p.eb/\x≠p.g:=by
 obtain⟨g1,g2,g3,g4,g5,g6,g7,g8,g9⟩:=h.bs.ok.high;have:=h.zt;have:=h.bs.lz;omega
theorem acu{fb:Nat}{d:Yz}{P:Yy}{fy:Ya}{x0 x1 x2 x3 x4 x5 x6 x7 x8:Value}(h:Ux B W p v Z done gb T sv fv ss ff q nu Y7 w)(hT:T<=fb)(hb:ZI w fb 58 #[x0,x1,x2,x3,x4,x5,x6,x7,x8])(YZ:fy.In w)(hg:fy.UG d=true)(hP:fy.ZJ=P)
  (ho:∀ad,(fy.A0=some ad\/fy.A1=some ad\/fy.A2=some ad)->fb<ad.block):
  ahs ((((((((((w.setCell ↑fb ↑fy.W0).setCell ⟨fb,1,none⟩ ↑fy.H0).setCell ⟨fb,2,none⟩ (.slice fy.A0 fy.n0 fy.c0)).setCell ⟨fb,3,none⟩ ↑fy.W1).setCell ⟨fb,4,none⟩ ↑fy.H1).setCell ⟨fb,5,none⟩ (.slice fy.A1 fy.n1 fy.c1)).setCell ⟨fb,6,none⟩ ↑fy.W2).setCell ⟨fb,7,none⟩ ↑fy.H2).setCell ⟨fb,8,none⟩ (.slice fy.A2 fy.n2 fy.c2)).setCell ↑p.eb ↑Z0) fb p.eb d P fy /\
  Ux B W p v Z done gb T sv fv ss ff q nu Y7 ((((((((((w.setCell ↑fb ↑fy.W0).setCell ⟨fb,1,none⟩ ↑fy.H0).setCell ⟨fb,2,none⟩ (.slice fy.A0 fy.n0 fy.c0)).setCell ⟨fb,3,none⟩ ↑fy.W1).setCell ⟨fb,4,none⟩ ↑fy.H1).setCell ⟨fb,5,none⟩ (.slice fy.A1 fy.n1 fy.c1)).setCell ⟨fb,6,none⟩ ↑fy.W2).setCell ⟨fb,7,none⟩ ↑fy.H2).setCell ⟨fb,8,none⟩ (.slice fy.A2 fy.n2 fy.c2)).setCell ↑p.eb ↑Z0):=by
 obtain⟨b9,m9⟩:=Qg hb ↑fy.W0 ↑fy.H0 (.slice fy.A0 fy.n0 fy.c0) ↑fy.W1 ↑fy.H1 (.slice fy.A1 fy.n1 fy.c1) ↑fy.W2 ↑fy.H2 (.slice fy.A2 fy.n2 fy.c2);have hne:=h.SL hT;have h9:=h.one m9 hb ZU hT;generalize (((((((((w.setCell ↑fb ↑fy.W0).setCell ⟨fb,1,none⟩ ↑fy.H0).setCell ⟨fb,2,none⟩ (.slice fy.A0 fy.n0 fy.c0)).setCell ⟨fb,3,none⟩ ↑fy.W1).setCell ⟨fb,4,none⟩ ↑fy.H1).setCell ⟨fb,5,none⟩ (.slice fy.A1 fy.n1 fy.c1)).setCell ⟨fb,6,none⟩ ↑fy.W2).setCell ⟨fb,7,none⟩ ↑fy.H2).setCell ⟨fb,8,none⟩ (.slice fy.A2 fy.n2 fy.c2))=w9 at b9 m9 h9 ⊢;have hm:Mod (·=p.eb) w9 (w9.setCell ↑p.eb ↑Z0):=(Mod.refl (·=p.eb) w9).setCell (p:=↑p.eb) (.inl rfl) _;have hlt:p.eb<T:=by
  obtain⟨g1,g2,g3,g4,g5,g6,g7,g8,g9⟩:=h.bs.ok.high;have:=h.zt;have:=h.bs.lz;omega
 exact⟨⟨b9.keep hm hne.1,(YZ.mod m9 (fun ad e e2=>by have:=ho ad e;have e3:ad.block=fb:=e2;omega)).mod hm (fun ad e e2=>by have:=ho ad e;have e3:ad.block=p.eb:=e2;omega),hg,hP,fun ad e=>by have:=ho ad e;omega⟩,h9.err hm (h9.e0.put rfl)⟩
end
theorem Gt{j G:Nat}(hG:1<=G):Ip (j % G) G=(j+1) % G:=by
 unfold Ip;have h:=Nat.mod_lt j (show G > 0 by omega);have h1:(j+1) % G=(j % G+1) % G:=by rw [Nat.add_mod,Nat.mod_add_mod];simp [Nat.add_mod]
 rw [h1];split
 ·rename_i h2;exact(Nat.mod_eq_of_lt h2).symm
 ·rw [show j % G+1=G by omega,Nat.mod_self]
theorem Ux.rJ{B:Nat}{W:World}{p:qZ}{v:Value}{Z:Nat}{done:List (List (List UInt8 × Yy))}{gb T:Nat}{sv fv:Value}{ss:List (List UInt8)}{ff:List Yy}{q0 k j:Nat}{Xa:List Yy}{w w':World}(h:Ux B W p v Z done gb T sv fv ss ff (Xr p.d p.G p.tg q0 Xa k).1 (j % p.G) (Xr p.d p.G p.tg q0 Xa k).2 w)(hG:1<=p.G)
  (hm:Mod (·=p.g) w w')(he:Uu w' p.g p.d p.G (Gu (Xr p.d p.G p.tg q0 Xa k).1 p.tg p.G (U0 p.d p.G p.tg q0 Xa k).1.length) p.tg (Ip (j % p.G) p.G) (U0 p.d p.G p.tg q0 Xa k).2):
  Ux B W p v Z done gb w'.heap.size sv fv ss ff (Xr p.d p.G p.tg q0 Xa (k+1)).1 ((j+1) % p.G) (Xr p.d p.G p.tg q0 Xa (k+1)).2 w':=by
 rw [Gt hG]at he;exact(h.code hm he).raise
theorem xO{fs:List Ya}{k:Nat}{g:Ya->Yy}(hk:k<fs.length):(fs.map g).getD k KZ=g (fs.getD k Ya.zero):=by
 rw [Z6,Z6,List.getElem?_map,List.getElem?_eq_getElem hk];rfl
theorem yT:(Tryz.prog.info? 54).map (fun i=>(i.zero,i.size,i.bytes))=some (some ↑Zd,1,24):=ZR
theorem zy:(Tryz.prog.info? 58).map (fun i=>(i.zero,i.size,i.bytes))=some (some (.agg ↑WK),9,120):=ZR
theorem aea:(Tryz.prog.info? 49).map (fun i=>(i.zero,i.size,i.bytes))=some (some (.agg #[↑Zd,↑Zd]),2,48):=ZR
theorem adj{w:World}{rb eb:Nat}(h:ZI w rb 43 DV)(he:ZI w eb 26 #[↑Z0])(hne:rb≠eb)(a0 a1 a2 a3 a4 a5 a6 a7:Value):
  ZI (((((((((w.setCell ↑rb a0).setCell ⟨rb,1,none⟩ a1).setCell ⟨rb,2,none⟩ a2).setCell ⟨rb,3,none⟩ a3).setCell ⟨rb,4,none⟩ a4).setCell ⟨rb,5,none⟩ a5).setCell ⟨rb,6,none⟩ a6).setCell ⟨rb,7,none⟩ a7).setCell ↑eb ↑Z0) rb 43 #[a0,a1,a2,a3,a4,a5,a6,a7] /\
  ZI (((((((((w.setCell ↑rb a0).setCell ⟨rb,1,none⟩ a1).setCell ⟨rb,2,none⟩ a2).setCell ⟨rb,3,none⟩ a3).setCell ⟨rb,4,none⟩ a4).setCell ⟨rb,5,none⟩ a5).setCell ⟨rb,6,none⟩ a6).setCell ⟨rb,7,none⟩ a7).setCell ↑eb ↑Z0) eb 26 #[↑Z0] /\
  Mod (fun j=>j=rb\/j=eb) w (((((((((w.setCell ↑rb a0).setCell ⟨rb,1,none⟩ a1).setCell ⟨rb,2,none⟩ a2).setCell ⟨rb,3,none⟩ a3).setCell ⟨rb,4,none⟩ a4).setCell ⟨rb,5,none⟩ a5).setCell ⟨rb,6,none⟩ a6).setCell ⟨rb,7,none⟩ a7).setCell ↑eb ↑Z0):=by
 have z:=(((((((h.UY 0 a0).UY 1 a1).UY 2 a2).UY 3 a3).UY 4 a4).UY 5 a5).UY 6 a6).UY 7 a7;unfold DV at z
 have m8:Mod (fun j=>j=rb\/j=eb) w ((((((((w.setCell ↑rb a0).setCell ⟨rb,1,none⟩ a1).setCell ⟨rb,2,none⟩ a2).setCell ⟨rb,3,none⟩ a3).setCell ⟨rb,4,none⟩ a4).setCell ⟨rb,5,none⟩ a5).setCell ⟨rb,6,none⟩ a6).setCell ⟨rb,7,none⟩ a7):=
  ((((((((Mod.refl (fun j=>j=rb\/j=eb) w).setCell (.inl (.inl rfl)) a0).setCell (.inl (.inl rfl)) a1).setCell (.inl (.inl rfl)) a2).setCell (.inl (.inl rfl)) a3).setCell (.inl (.inl rfl)) a4).setCell (.inl (.inl rfl)) a5).setCell (.inl (.inl rfl)) a6).setCell (.inl (.inl rfl)) a7
 have e8:ZI ((((((((w.setCell ↑rb a0).setCell ⟨rb,1,none⟩ a1).setCell ⟨rb,2,none⟩ a2).setCell ⟨rb,3,none⟩ a3).setCell ⟨rb,4,none⟩ a4).setCell ⟨rb,5,none⟩ a5).setCell ⟨rb,6,none⟩ a6).setCell ⟨rb,7,none⟩ a7) eb 26 #[↑Z0]:=
  (((((((he.far (XP hne) a0).far (XP hne) a1).far (XP hne) a2).far (XP hne) a3).far (XP hne) a4).far (XP hne) a5).far (XP hne) a6).far (XP hne) a7
 generalize ((((((((w.setCell ↑rb a0).setCell ⟨rb,1,none⟩ a1).setCell ⟨rb,2,none⟩ a2).setCell ⟨rb,3,none⟩ a3).setCell ⟨rb,4,none⟩ a4).setCell ⟨rb,5,none⟩ a5).setCell ⟨rb,6,none⟩ a6).setCell ⟨rb,7,none⟩ a7)=w8 at z m8 e8 ⊢;refine⟨ZI.far (p:=↑eb) ?_ hne _,e8.put rfl,m8.setCell (p:=↑eb) (.inl (.inr rfl)) _⟩;simpa using z
end Go.Proofs.YthednemlahioeaaGreatDoor
